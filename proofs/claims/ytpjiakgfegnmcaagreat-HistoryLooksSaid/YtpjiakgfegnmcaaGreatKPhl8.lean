/- Parts of the proof, in this order: The turns of a heap, in the program: Passes; Which cells strokes cover, in the program: covers. The plain law of it; How often strokes cover each cell of a ring, in the program: StrokesOn; SameInts, SameNames of the reference; Fold of the program, of a small set; What the samples' register is; awake, which stands at the head of the statements about histories: it gives true; brief: a register is small; The turns of a heap, in the reference: Passes; Which cells strokes cover, in the reference: covered; HeapOf of the reference. -/
import Derived.Laws.MakeOwn
import Derived.Test.YtpjiakgfegnmcaaGreatKPhl7
set_option linter.unusedSimpArgs false
set_option linter.unusedVariables false
namespace Go.Proofs.YtpjiakgfegnmcaaGreat
set_option linter.unusedSimpArgs false
open Go.RowKit

theorem evCells_take (l : List EvV) (k : Nat) : (evCells l).take (k * 21) = evCells (l.take k) := by
  rw [evCells, evCells]
  induction l generalizing k with
  | nil => simp
  | cons e l ih =>
    cases k with
    | zero => simp
    | succ k =>
      simp only [List.map_cons, List.flatten_cons, List.take_succ_cons]
      rw [List.take_append, show (k + 1) * 21 = k * 21 + 21 by omega, List.take_of_length_le (by show 21 ≤ _; omega), show k * 21 + 21 - e.cells.length = k * 21 from by show k * 21 + 21 - 21 = _; omega, ih]
theorem RdEs.to_rd {W : World} {a : Option Addr} {n c : Nat} {l : List EvV} (h : RdEs W a n c l) : RdA W 21 a n c (evCells l) := by
  refine ⟨by rw [evCells_len, h.1], h.2.1, h.2.2.1, h.2.2.2.imp id ?_⟩
  rintro ⟨b, off, rfl, h4⟩
  refine ⟨b, off, rfl, fun q v hv => ?_⟩
  have hq : q < l.length * 21 := by have := (List.getElem?_eq_some_iff.1 hv).1; rwa [evCells_len] at this
  have hi : q / 21 < l.length := by omega
  have hx := List.getElem?_eq_getElem hi
  have h5 := flat_at 21 (l.map EvV.cells) (by intro r hr; obtain ⟨y, _, rfl⟩ := List.mem_map.1 hr; rfl) (q / 21) _ (by rw [List.getElem?_map, hx]; rfl) (q % 21) (by omega)
  have h6 := h4 _ _ hx (q % 21) v (by rw [← h5, ← hv, show q / 21 * 21 + q % 21 = q by omega]; rfl)
  rwa [show off + q / 21 * 21 + q % 21 = off + q by omega] at h6
/-- An event that counts for a heap's turns. -/
def passOne (a : Nm) (e : EvV) : Bool := e.x.n.kind == 2 && (decide ((e.x.n.refH, e.x.n.refN) = a) && inB e.x.n.turns 1 10000)
def passSum (a : Nm) (l : List EvV) : Int := l.foldl (fun n e => if passOne a e = true then n + e.x.n.turns else n) 0
theorem passSum_snoc (a : Nm) (l : List EvV) (e : EvV) : passSum a (l ++ [e]) = if passOne a e = true then passSum a l + e.x.n.turns else passSum a l := by simp [passSum, List.foldl_append]
theorem passSum_bnd (a : Nm) (l : List EvV) : 0 ≤ passSum a l ∧ passSum a l ≤ l.length * 10000 := by
  have h : ∀ (l : List EvV) (z : Int), z ≤ l.foldl (fun n e => if passOne a e = true then n + e.x.n.turns else n) z ∧ l.foldl (fun n e => if passOne a e = true then n + e.x.n.turns else n) z ≤ z + l.length * 10000 := by
    intro l
    induction l with
    | nil => intro z; simp
    | cons e l ih =>
      intro z
      have h1 := ih (if passOne a e = true then z + e.x.n.turns else z)
      simp only [List.foldl_cons, List.length_cons]
      by_cases hp : passOne a e = true
      · have h2 : 1 ≤ e.x.n.turns ∧ e.x.n.turns ≤ 10000 := by
          simp only [passOne, Bool.and_eq_true] at hp
          exact inB_true.1 hp.2.2
        rw [if_pos hp] at h1 ⊢
        omega
      · rw [if_neg hp] at h1 ⊢
        omega
  have := h l 0
  simp only [passSum]
  omega
/-- What Passes gives: the turns, and whether there is such a heap. -/
def passesV (hs es : List EvV) (k : Int) : Int × Int := if 0 ≤ k then (match hs[k.toNat]? with | some h => (passSum h.nm (es.take 400), 0) | none => (0, 3)) else (0, 3)

set_option maxHeartbeats 16000000 in
set_option maxRecDepth 100000 in
theorem passes_any (hs es : List EvV) (ha : Option Addr) (hn hc : Nat) (ea : Option Addr) (en ec : Nat) (v3 : Value) (z : Int) (w : World)
    (h1 : RdEs w ha hn hc hs) (h2 : RdA w 21 ea en ec (evCells es)) :
    Calls Tryz.prog 14 #[.agg #[.slice ha hn hc, .slice ea en ec, v3], .int .i64 z] w fun e w' => e = .returned (.tuple #[.int .i64 (passesV hs es z).1, .int .i64 (passesV hs es z).2]) ∧ Below w.heap.size w w' := by
  have I21 := Lib.hid (show ∀ (x : EvV), (Tryz.prog.info? 53).map (·.size) = some (evA x).size from fun x => by kernel_rfl)
  have J21 : (Tryz.prog.info? 53).map (·.size) = some 21 := by kernel_rfl
  have LH : Hid (hs.length = hn) := Lib.hid h1.1
  have LE : Hid (es.length = en) := Lib.hid (by have := h2.len; rw [evCells_len] at this; omega)
  have B0 := Lib.hid ((Below.refl w.heap.size w).alloc (Nat.le_refl _) (.cells #[.slice ha hn hc, .slice ea en ec, v3] 27))
  have P0 := Lib.hid (heap_last w (.cells #[.slice ha hn hc, .slice ea en ec, v3] 27))
  have R1 := Lib.hid (h1.below B0.out)
  have R2 := Lib.hid (h2.below B0.out)
  have hm1 := h1.maxn
  have hm2 := h2.maxn
  clear h1 h2
  go_enter Tryz.func14, Tryz.ntmps14
  go_upto_region 1 with fail
  obtain ⟨pR, hpR⟩ : ∃ pR, Hid (w.heap.size = pR) := ⟨_, Lib.hid rfl⟩
  rw [hpR.out] at P0 ⊢
  generalize w.alloc (.cells #[.slice ha hn hc, .slice ea en ec, v3] 27) = W1 at *
  have c0 := cell_of P0.out 0 (.slice ha hn hc) rfl
  have c1 := cell_of P0.out 1 (.slice ea en ec) rfl
  go_wp2_with fail
  refine (hin_any z 0 (hn - 1) _).mono ?_
  rintro e w' ⟨rfl, rfl⟩
  by_cases hz : 0 ≤ z ∧ z < hn
  · obtain ⟨k, rfl⟩ : ∃ k : Nat, z = k := ⟨z.toNat, by omega⟩
    have hkn : k < hn := by omega
    obtain ⟨h, Hh⟩ : ∃ h, hs[k]? = some h := ⟨hs[k]'(by rw [LH.out]; exact hkn), List.getElem?_eq_getElem (by rw [LH.out]; exact hkn)⟩
    have HV : Hid (passesV hs es k = (passSum h.nm (es.take 400), 0)) := Lib.hid (by simp [passesV, Hh])
    have hin : inB (k : Int) 0 ((hn : Int) - 1) = true := inB_true.2 (by omega)
    rw [hin]
    clear hin
    obtain ⟨hb, ho, rfl, hat⟩ := R1.out.at (by omega)
    have HHA := Lib.hid (hat k h Hh)
    clear hat Hh
    obtain ⟨oh, hoh⟩ : ∃ oh, Hid (ho + k * 21 = oh) := ⟨_, Lib.hid rfl⟩
    rw [hoh.out] at HHA
    have HIX := Lib.hid (fun W => idx_off (W := W) (c := hc) (b := hb) Tryz.underlying24 J21 hkn hoh.out)
    obtain ⟨M, hM⟩ : ∃ M, Hid (min en 400 = M) := ⟨_, Lib.hid rfl⟩
    have HME : Hid (M ≤ en) := Lib.hid (by rw [← hM.out]; omega)
    have ET : Hid (es.take 400 = es.take M) := Lib.hid (by
      rw [← hM.out]; have := LE.out
      rcases Nat.le_total en 400 with h | h
      · rw [Nat.min_eq_left h, List.take_of_length_le (by omega), List.take_of_length_le (by omega)]
      · rw [Nat.min_eq_right h])
    rw [ET.out] at HV
    obtain ⟨all, hall⟩ : ∃ all, Hid (es.take M = all) := ⟨_, Lib.hid rfl⟩
    have HAL : Hid (all.length = M) := Lib.hid (by rw [← hall.out, List.length_take]; have := LE.out; have := HME.out; omega)
    have HM4 : Hid (M ≤ 400) := Lib.hid (by rw [← hM.out]; omega)
    rw [hall.out] at HV
    have hmin : (min (en : Int) 400) = (M : Int) := by have := hM.out; omega
    obtain ⟨iE, hiE, hz0, hz1, hz2⟩ := info_parts infoEv
    have HIE := Lib.hid (And.intro hiE hz1)
    clear hiE hz0 hz1 hz2 hz
    go_upto_region 4 with fail
    go_wp2_with (first
      | (refine wpList_slice_rd _ rfl _ none _ 24 rfl 53 iE 21 Tryz.underlying24 HIE.out.1 HIE.out.2 ea en ec _ rfl R2.out 0 M (.inl ⟨rfl, rfl⟩) (.inr ⟨_, .i64, rfl, rfl⟩) (Nat.zero_le _) HME.out ?_
         intro a' hsl
         rw [Nat.zero_mul, List.drop_zero, Nat.sub_zero, Nat.sub_zero, evCells_take, hall.out] at hsl
         have E1 := Lib.hid (RdEs.of_rd hsl)
         clear hsl
         rw [Nat.sub_zero, Nat.sub_zero])
      | fail)
    clear hmin c0 c1
    have GB : Hid (∀ q x, all[q]? = some x → ∀ r, (if passOne h.nm x = true then passSum h.nm (all.take q) + x.x.n.turns else passSum h.nm (all.take q)) = r → passSum h.nm (all.take (q + 1)) = r) := Lib.hid (fun q x hx r hr => by rw [take_snoc hx, passSum_snoc]; exact hr)
    go_loopw [6, 24] (fun s i wr => ∃ q : Nat, i = .int .i64 q ∧ q ≤ M ∧ s = .int .i64 (passSum h.nm (all.take q)) ∧ Hid (Below W1.heap.size W1 wr)) (fun _ i _ => M - (intOf i).toNat)
    case atStart => exact ⟨0, rfl, Nat.zero_le _, rfl, Lib.hid (Below.refl _ _)⟩
    case round =>
      obtain ⟨q, rfl, hq, rfl, HS⟩ := hrel
      have P6 := Lib.hid (below_blk HS.out P0.out)
      have H6 := Lib.hid (rangeAt_below HHA.out HS.out)
      obtain ⟨z, hz⟩ : ∃ z, Hid (passSum h.nm (all.take q) = z) := ⟨_, Lib.hid rfl⟩
      have HZ : Hid (0 ≤ z ∧ z ≤ 4000000) := Lib.hid (by
        rw [← hz.out]
        have h1 := passSum_bnd h.nm (all.take q)
        have h2 : (all.take q).length ≤ 400 := by rw [List.length_take]; have := HM4.out; have := HAL.out; omega
        omega)
      rw [hz.out]
      by_cases hlt : q < M
      · have t0 : decide ((q : Int) < (M : Int)) = true := by simp; omega
        obtain ⟨x, Hx⟩ : ∃ x, all[q]? = some x := ⟨all[q]'(by rw [HAL.out]; exact hlt), List.getElem?_eq_getElem (by rw [HAL.out]; exact hlt)⟩
        have GBX := Lib.hid (GB.out q x Hx)
        rw [hz.out] at GBX
        obtain ⟨bs, off, ha0, hat⟩ := (E1.out.below HS.out).at (by omega)
        subst ha0
        have HRA := Lib.hid (hat q x Hx)
        clear hat Hx
        obtain ⟨o, hoo⟩ : ∃ o, Hid (off + q * 21 = o) := ⟨_, Lib.hid rfl⟩
        rw [hoo.out] at HRA
        have hix := fun W => idx_off (W := W) (c := ec) (b := bs) Tryz.underlying24 J21 hlt hoo.out
        go_upto_region 7 with (first
          | (refine wpList_load_mid rfl 53 _ rfl bs o rfl x.cells _ HRA.out Tryz.underlying53 rfl (by exact J21) ?_)
          | (refine wpList_alloc_ev rfl rfl ?_)
          | (refine wpList_store_newp _ rfl 53 _ _ rfl _ rfl _ (evA x) rfl rfl (I21.out _) rfl (evA_all x) ?_)
          | fail)
        clear hix t0
        simp only [Act.put, List.setIfInBounds_toArray, List.set_cons_zero, List.set_cons_succ]
        have hbt : Below wr.heap.size wr (wr.alloc (.cells (evA x) 53)) := (Below.refl _ _).alloc (Nat.le_refl _) _
        have XT := Lib.hid (heap_last wr (.cells (evA x) 53))
        have S7 := Lib.hid (HS.out.trans (hbt.mono HS.out.size))
        have P7 := Lib.hid (below_blk hbt P6.out)
        have H7 := Lib.hid (rangeAt_below H6.out hbt)
        clear hbt P6 H6 HS HRA
        obtain ⟨p8, hp8⟩ : ∃ p8, Hid (wr.heap.size = p8) := ⟨_, Lib.hid rfl⟩
        rw [hp8.out] at XT ⊢
        generalize wr.alloc (.cells (evA x) 53) = wt at *
        have hq64 : (q : Int) + 1 ≤ 9223372036854775807 := by have := HM4.out; omega
        have hC0 : Below wt.heap.size wt wt.drew := (Below.refl _ _).drew
        have LX := Lib.hid (show ∀ w0, Below wt.heap.size wt w0 → w0.heap[p8]? = some (.cells (evA x) 53 (0, 0)) from fun w0 h => below_blk h XT.out)
        have LR := Lib.hid (show ∀ w0, Below wt.heap.size wt w0 → w0.heap[pR]? = some (.cells #[.slice (some ⟨hb, ho, none⟩) hn hc, .slice ea en ec, v3] 27 (0, 0)) from fun w0 h => below_blk h P7.out)
        have LB := Lib.hid (show ∀ w0, Below wt.heap.size wt w0 → w0.rangeAt hb oh h.cells from fun w0 hw => rangeAt_below H7.out hw)
        refine wp_region_quiet (C := fun w' : World => Below wt.heap.size wt w') (by kernel_rfl) (by kernel_rfl) hC0 ?_
        show wpQuiet _ _ _ _ (_ :: _) _
        go_big_quiet_want
        refine ⟨.pointer (some ⟨p8, 2, none⟩), fun w0 hC => ?_, ?_⟩
        · clear hC
          go_simp
        simp only [Act.put, List.setIfInBounds_toArray, List.set_cons_zero, List.set_cons_succ]
        go_big_quiet_on
        go_big_quiet_want
        refine ⟨.pointer (some ⟨p8, 6, none⟩), fun w0 hC => ?_, ?_⟩
        · clear hC
          go_simp
        simp only [Act.put, List.setIfInBounds_toArray, List.set_cons_zero, List.set_cons_succ]
        go_big_quiet_on
        go_big_quiet_want
        refine ⟨.int .i64 x.x.n.kind, fun w0 hC => ?_, ?_⟩
        · have c6 := cell_of (LX.out w0 hC) 6 (.int .i64 x.x.n.kind) rfl
          clear hC
          go_simp
        simp only [Act.put, List.setIfInBounds_toArray, List.set_cons_zero, List.set_cons_succ]
        go_big_quiet_on
        go_big_quiet_want
        refine ⟨.bool (x.x.n.kind == 2), fun w0 hC => ?_, ?_⟩
        · clear hC
          go_simp
        simp only [Act.put, List.setIfInBounds_toArray, List.set_cons_zero, List.set_cons_succ]
        go_big_quiet_on
        cases hk : (x.x.n.kind == 2)
        · have GR := Lib.hid (GBX.out z (by simp [passOne, hk]))
          go_big_quiet_want
          go_big_quiet_op
          go_big_quiet_on
          go_big_quiet_skip
          go_big_quiet_skip
          go_big_quiet_skip
          go_big_quiet_skip
          go_big_quiet_skip
          go_big_quiet_skip
          go_big_quiet_skip
          go_big_quiet_skip
          go_big_quiet_skip
          go_big_quiet_skip
          go_big_quiet_want
          refine ⟨.bool false, fun w0 hC => ?_, ?_⟩
          · clear hC
            go_simp
          simp only [Act.put, List.setIfInBounds_toArray, List.set_cons_zero, List.set_cons_succ]
          go_big_quiet_on
          go_big_quiet_want
          go_big_quiet_op
          go_big_quiet_on
          go_big_quiet_skip
          go_big_quiet_skip
          go_big_quiet_skip
          go_big_quiet_skip
          go_big_quiet_want
          refine ⟨.bool false, fun w0 hC => ?_, ?_⟩
          · clear hC
            go_simp
          simp only [Act.put, List.setIfInBounds_toArray, List.set_cons_zero, List.set_cons_succ]
          go_big_quiet_on
          refine wpQuiet_nil ?_
          intro w' hC
          have S8 := Lib.hid (S7.out.trans (hC.mono S7.out.size))
          clear hC
          go_wp2_with fail
          go_roundw
          case rel => exact ⟨q + 1, by go_num, by omega, by rw [GR.out], S8⟩
          case measure => simp [intOf]; omega
        · have HK := Lib.hid hk; clear hk
          go_big_quiet_want
          go_big_quiet_op
          go_big_quiet_on
          go_big_quiet_want
          refine ⟨.pointer (some ⟨p8, 2, none⟩), fun w0 hC => ?_, ?_⟩
          · clear hC
            go_simp
          simp only [Act.put, List.setIfInBounds_toArray, List.set_cons_zero, List.set_cons_succ]
          go_big_quiet_on
          go_big_quiet_want
          refine ⟨.pointer (some ⟨p8, 18, none⟩), fun w0 hC => ?_, ?_⟩
          · clear hC
            go_simp
          simp only [Act.put, List.setIfInBounds_toArray, List.set_cons_zero, List.set_cons_succ]
          go_big_quiet_on
          go_big_quiet_want
          refine ⟨.agg #[.int .i64 x.x.n.refH, .int .i64 x.x.n.refN], fun w0 hC => ?_, ?_⟩
          · have c18 := cell_of (LX.out w0 hC) 18 (.int .i64 x.x.n.refH) rfl
            have c19 := cell_of (LX.out w0 hC) 19 (.int .i64 x.x.n.refN) rfl
            clear hC
            go_simp
          simp only [Act.put, List.setIfInBounds_toArray, List.set_cons_zero, List.set_cons_succ]
          go_big_quiet_on
          go_big_quiet_want
          refine ⟨.pointer (some ⟨pR, 0, none⟩), fun w0 hC => ?_, ?_⟩
          · clear hC
            go_simp
          simp only [Act.put, List.setIfInBounds_toArray, List.set_cons_zero, List.set_cons_succ]
          go_big_quiet_on
          go_big_quiet_want
          refine ⟨.slice (some ⟨hb, ho, none⟩) hn hc, fun w0 hC => ?_, ?_⟩
          · have c0 := cell_of (LR.out w0 hC) 0 (.slice (some ⟨hb, ho, none⟩) hn hc) rfl
            clear hC
            go_simp
          simp only [Act.put, List.setIfInBounds_toArray, List.set_cons_zero, List.set_cons_succ]
          go_big_quiet_on
          go_big_quiet_want
          go_big_quiet_op
          go_big_quiet_on
          go_big_quiet_want
          refine ⟨.pointer (some ⟨hb, oh, none⟩), fun w0 hC => ?_, ?_⟩
          · have hix := HIX.out w0
            clear hC
            go_simp
          simp only [Act.put, List.setIfInBounds_toArray, List.set_cons_zero, List.set_cons_succ]
          go_big_quiet_on
          go_big_quiet_want
          refine ⟨.pointer (some ⟨hb, oh, none⟩), fun w0 hC => ?_, ?_⟩
          · clear hC
            go_simp
          simp only [Act.put, List.setIfInBounds_toArray, List.set_cons_zero, List.set_cons_succ]
          go_big_quiet_on
          go_big_quiet_want
          refine ⟨.agg #[.int .i64 h.nm.1, .int .i64 h.nm.2], fun w0 hC => ?_, ?_⟩
          · have c0 := LB.out w0 hC 0 (.int .i64 h.nm.1) rfl
            have c1 := LB.out w0 hC 1 (.int .i64 h.nm.2) rfl
            simp only [Nat.add_zero] at c0
            clear hC
            go_simp
          simp only [Act.put, List.setIfInBounds_toArray, List.set_cons_zero, List.set_cons_succ]
          go_big_quiet_on
          go_big_quiet_want
          refine ⟨.bool (decide (x.x.n.refH = h.nm.1 ∧ x.x.n.refN = h.nm.2)), fun w0 hC => ?_, ?_⟩
          · clear hC
            go_simp
            try (by_cases h1 : x.x.n.refH = h.nm.1 <;> by_cases h2 : x.x.n.refN = h.nm.2 <;> simp [h1, h2])
          simp only [Act.put, List.setIfInBounds_toArray, List.set_cons_zero, List.set_cons_succ]
          go_big_quiet_on
          cases hr : decide (x.x.n.refH = h.nm.1 ∧ x.x.n.refN = h.nm.2)
          · have GR := Lib.hid (GBX.out z (by
              have h1 : ¬ (x.x.n.refH, x.x.n.refN) = h.nm := fun e => of_decide_eq_false hr ⟨congrArg Prod.fst e, congrArg Prod.snd e⟩
              simp [passOne, h1]))
            go_big_quiet_want
            refine ⟨.bool false, fun w0 hC => ?_, ?_⟩
            · clear hC
              go_simp
            simp only [Act.put, List.setIfInBounds_toArray, List.set_cons_zero, List.set_cons_succ]
            go_big_quiet_on
            go_big_quiet_want
            go_big_quiet_op
            go_big_quiet_on
            go_big_quiet_skip
            go_big_quiet_skip
            go_big_quiet_skip
            go_big_quiet_skip
            go_big_quiet_want
            refine ⟨.bool false, fun w0 hC => ?_, ?_⟩
            · clear hC
              go_simp
            simp only [Act.put, List.setIfInBounds_toArray, List.set_cons_zero, List.set_cons_succ]
            go_big_quiet_on
            refine wpQuiet_nil ?_
            intro w' hC
            have S8 := Lib.hid (S7.out.trans (hC.mono S7.out.size))
            clear hC
            go_wp2_with fail
            go_roundw
            case rel => exact ⟨q + 1, by go_num, by omega, by rw [GR.out], S8⟩
            case measure => simp [intOf]; omega
          · have HR : Hid ((x.x.n.refH, x.x.n.refN) = h.nm) := Lib.hid (Prod.ext (of_decide_eq_true hr).1 (of_decide_eq_true hr).2)
            clear hr
            go_big_quiet_want
            refine ⟨.bool true, fun w0 hC => ?_, ?_⟩
            · clear hC
              go_simp
            simp only [Act.put, List.setIfInBounds_toArray, List.set_cons_zero, List.set_cons_succ]
            go_big_quiet_on
            go_big_quiet_want
            go_big_quiet_op
            go_big_quiet_on
            go_big_quiet_want
            refine ⟨.pointer (some ⟨p8, 2, none⟩), fun w0 hC => ?_, ?_⟩
            · clear hC
              go_simp
            simp only [Act.put, List.setIfInBounds_toArray, List.set_cons_zero, List.set_cons_succ]
            go_big_quiet_on
            go_big_quiet_want
            refine ⟨.pointer (some ⟨p8, 9, none⟩), fun w0 hC => ?_, ?_⟩
            · clear hC
              go_simp
            simp only [Act.put, List.setIfInBounds_toArray, List.set_cons_zero, List.set_cons_succ]
            go_big_quiet_on
            go_big_quiet_want
            refine ⟨.int .i64 x.x.n.turns, fun w0 hC => ?_, ?_⟩
            · have c9 := cell_of (LX.out w0 hC) 9 (.int .i64 x.x.n.turns) rfl
              clear hC
              go_simp
            simp only [Act.put, List.setIfInBounds_toArray, List.set_cons_zero, List.set_cons_succ]
            go_big_quiet_on
            go_big_quiet_want
            refine ⟨.bool (inB x.x.n.turns 1 10000), fun w0 hC => ?_, ?_⟩
            · go_simp
              refine (hin_any x.x.n.turns 1 10000 w0).mono ?_
              rintro e w1 ⟨rfl, rfl⟩
              exact ⟨rfl, hC⟩
            simp only [Act.put, List.setIfInBounds_toArray, List.set_cons_zero, List.set_cons_succ]
            go_big_quiet_on
            cases hi : inB x.x.n.turns 1 10000
            · have GR := Lib.hid (GBX.out z (by simp [passOne, hi]))
              go_big_quiet_want
              refine ⟨.bool false, fun w0 hC => ?_, ?_⟩
              · clear hC
                go_simp
              simp only [Act.put, List.setIfInBounds_toArray, List.set_cons_zero, List.set_cons_succ]
              go_big_quiet_on
              refine wpQuiet_nil ?_
              intro w' hC
              have S8 := Lib.hid (S7.out.trans (hC.mono S7.out.size))
              clear hC
              go_wp2_with fail
              go_roundw
              case rel => exact ⟨q + 1, by go_num, by omega, by rw [GR.out], S8⟩
              case measure => simp [intOf]; omega
            · have GR := Lib.hid (GBX.out (z + x.x.n.turns) (by simp [passOne, hi, HK.out, HR.out]))
              have HT := Lib.hid (inB_true.1 hi)
              clear hi
              go_big_quiet_want
              refine ⟨.bool true, fun w0 hC => ?_, ?_⟩
              · clear hC
                go_simp
              simp only [Act.put, List.setIfInBounds_toArray, List.set_cons_zero, List.set_cons_succ]
              go_big_quiet_on
              refine wpQuiet_nil ?_
              intro w' hC
              have S8 := Lib.hid (S7.out.trans (hC.mono S7.out.size))
              have hc9 := cell_of (LX.out w' hC) 9 (.int .i64 x.x.n.turns) rfl
              have hzb := HZ.out
              have htb := HT.out
              clear hC
              go_wp2_with fail
              go_roundw
              case rel => exact ⟨q + 1, by go_num, by omega, by rw [GR.out], S8⟩
              case measure => simp [intOf]; omega
      · have hqm : q = M := by omega
        subst hqm
        have t0 : decide ((q : Int) < (q : Int)) = false := by simp
        have HE : Hid (passSum h.nm all = z) := Lib.hid (by rw [← hz.out, List.take_of_length_le (by rw [HAL.out]; exact Nat.le_refl _)])
        have B6 := Lib.hid (B0.out.trans (HS.out.mono B0.out.size))
        go_wp2_with fail
        go_ret2
        exact ⟨by rw [HV.out, HE.out]; rfl, B6.out⟩
  · have HV : Hid (passesV hs es z = (0, 3)) := Lib.hid (by
      unfold passesV
      by_cases h0 : 0 ≤ z
      · rw [if_pos h0]
        have : hs[z.toNat]? = none := List.getElem?_eq_none (by rw [LH.out]; omega)
        rw [this]
      · rw [if_neg h0])
    have hin : inB z 0 ((hn : Int) - 1) = false := inB_false.2 (by omega)
    rw [hin]
    clear hin hz
    go_wp2_with fail
    go_ret2
    exact ⟨by rw [HV.out]; rfl, B0.out⟩
end Go.Proofs.YtpjiakgfegnmcaaGreat
namespace Go.Proofs.YtpjiakgfegnmcaaGreat
set_option linter.unusedSimpArgs false
open Go.RowKit

theorem same_set1 (w : World) (p o : Nat) (v : Value) : Same (fun k => k = p) w (w.setCell ⟨p, o, none⟩ v) := Same.of_grown (setCell_grown w p o v) (fun k e => by cases e; rfl)
/-- A list with one more at each place from s until e. -/
def addTo (T : List Int) (s e : Nat) : List Int := T.mapIdx fun i v => if s ≤ i ∧ i < e then v + 1 else v
theorem addTo_len (T : List Int) (s e : Nat) : (addTo T s e).length = T.length := by simp [addTo]
theorem addTo_at (T : List Int) (s e i : Nat) : (addTo T s e)[i]? = (T[i]?).map fun v => if s ≤ i ∧ i < e then v + 1 else v := by simp [addTo]
theorem addTo_none (T : List Int) (s : Nat) : addTo T s s = T := by
  apply List.ext_getElem?
  intro i
  rw [addTo_at]
  cases T[i]? with
  | none => rfl
  | some v => simp; intro h1 h2; omega
theorem addTo_step (T : List Int) (s e : Nat) (hse : s ≤ e) (v : Int) (hv : T[e]? = some v) : (addTo T s e).set e (v + 1) = addTo T s (e + 1) := by
  apply List.ext_getElem?
  intro i
  rw [List.getElem?_set, addTo_at, addTo_at, addTo_len]
  have hlt := (List.getElem?_eq_some_iff.1 hv).1
  by_cases he : e = i
  · subst he
    rw [if_pos rfl, if_pos hlt, hv]
    simp [hse]
  · rw [if_neg he]
    cases T[i]? with
    | none => rfl
    | some u =>
      simp only [Option.map_some, Option.some.injEq]
      by_cases h1 : s ≤ i ∧ i < e
      · rw [if_pos h1, if_pos ⟨h1.1, by omega⟩]
      · rw [if_neg h1, if_neg (fun h => h1 ⟨h.1, by omega⟩)]
/-- Strokes of a width on a list, from a place on. -/
def coverL (off wd : Nat) (T : List Int) (l : List Int) : List Int := l.foldl (fun T s => addTo T (off + s.toNat) (off + s.toNat + wd)) T
theorem coverL_snoc (off wd : Nat) (T l : List Int) (s : Int) : coverL off wd T (l ++ [s]) = addTo (coverL off wd T l) (off + s.toNat) (off + s.toNat + wd) := by simp [coverL, List.foldl_append]
theorem coverL_len (off wd : Nat) : ∀ (l T : List Int), (coverL off wd T l).length = T.length
  | [], _ => rfl
  | s :: l, T => by
    have := coverL_len off wd l (addTo T (off + s.toNat) (off + s.toNat + wd))
    rw [addTo_len] at this
    exact this
theorem addTo_bnd {T : List Int} {B : Int} (h : ∀ v ∈ T, 0 ≤ v ∧ v ≤ B) (s e : Nat) : ∀ v ∈ addTo T s e, 0 ≤ v ∧ v ≤ B + 1 := by
  intro v hv
  obtain ⟨i, hi⟩ := List.getElem?_of_mem hv
  rw [addTo_at] at hi
  cases hu : T[i]? with
  | none => simp [hu] at hi
  | some u =>
    have hb := h u (List.mem_of_getElem? hu)
    simp only [hu, Option.map_some, Option.some.injEq] at hi
    subst hi
    split <;> omega
theorem coverL_bnd (off wd : Nat) : ∀ (l T : List Int) (B : Int), (∀ v ∈ T, 0 ≤ v ∧ v ≤ B) → ∀ v ∈ coverL off wd T l, 0 ≤ v ∧ v ≤ B + l.length
  | [], T, B, h, v, hv => by have := h v hv; simp; omega
  | s :: l, T, B, h, v, hv => by
    have := coverL_bnd off wd l _ _ (addTo_bnd h (off + s.toNat) (off + s.toNat + wd)) v hv
    simp only [List.length_cons]
    omega

/-- A list of ints in a block of its own that may be written. -/
def TAt (w : World) (b : Nat) (T : List Int) : Prop := w.heap[b]? = some (.cells (T.map intV).toArray 3 (0, 0))
theorem TAt.at {w : World} {b : Nat} {T : List Int} (h : TAt w b T) {i : Nat} {v : Int} (hv : T[i]? = some v) : w.cell? ⟨b, i, none⟩ = some (.int .i64 v) := cell_of h i _ (by simp [hv, intV])
theorem TAt.set {w : World} {b : Nat} {T : List Int} (h : TAt w b T) (i : Nat) (v : Int) : TAt (w.setCell ⟨b, i, none⟩ (.int .i64 v)) b (T.set i v) := by
  unfold TAt at *
  have hb := blk_lt h
  simp only [World.setCell, Array.getElem?_modify, h]
  simp [intV, List.map_set]
theorem TAt.free {w : World} {b : Nat} {T : List Int} (h : TAt w b T) (i : Nat) : w.frozen? ⟨b, i, none⟩ = false := by
  unfold TAt at h
  simp [World.frozen?, h]
theorem RdI.ne {S : Nat → Prop} {W W' : World} {a : Option Addr} {n c : Nat} {l : List Int} (h : RdI W a n c l) (hs : Same S W W') (hne : ∀ x off, a = some ⟨x, off, none⟩ → ¬ S x) : RdI W' a n c l := by
  refine ⟨h.1, h.2.1, h.2.2.1, h.2.2.2.imp id ?_⟩
  rintro ⟨b', off, rfl, h4⟩
  refine ⟨b', off, rfl, fun i x hx => ?_⟩
  have h5 := h4 i x hx
  rw [← h5]
  simp only [World.cell?, hs.block b' (World.block_lt_of_cell? W _ h5) (hne b' off rfl)]

set_option maxHeartbeats 8000000 in
set_option maxRecDepth 100000 in
theorem covers_any (r s : Int) (wd : Nat) (b off N c : Nat) (T l : List Int) (sa : Option Addr) (sc : Nat) (B : Int) (w : World) (hT : TAt w b T) (hN : off + N ≤ T.length) (hr : RdI w sa l.length sc l) (hsb : ∀ x o, sa = some ⟨x, o, none⟩ → x ≠ b)
    (hl : ∀ x ∈ l, 0 ≤ x ∧ x + wd ≤ N) (hB : ∀ v ∈ T, 0 ≤ v ∧ v ≤ B) (hBl : B + l.length ≤ 1000000000000) (hNb : N ≤ 1000000) :
    Calls Tryz.prog 52 #[.agg #[.int .i64 r, .int .i64 s, .int .i64 wd], .slice (some ⟨b, off, none⟩) N c, .slice sa l.length sc] w fun e w' => e = .returned (.tuple #[]) ∧ TAt w' b (coverL off wd T l) ∧ Same (fun k => k = b) w w' := by
  have hb0 : Below w.heap.size w (w.alloc (.cells #[.int .i64 r, .int .i64 s, .int .i64 wd] 85)) := (Below.refl _ _).alloc (Nat.le_refl _) _
  have hF := heap_last w (.cells #[.int .i64 r, .int .i64 s, .int .i64 wd] 85)
  have T0 : Hid (TAt (w.alloc (.cells #[.int .i64 r, .int .i64 s, .int .i64 wd] 85)) b T) := Lib.hid (below_blk hb0 hT)
  have R0 := Lib.hid (hr.below hb0)
  have S0 := Lib.hid (Same.of_below (S := fun k => k = b) hb0)
  have FN : Hid (w.heap.size ≠ b) := Lib.hid (by have := blk_lt hT; omega)
  have HN := Lib.hid hN; have HSB := Lib.hid hsb; have HL := Lib.hid hl; have HB := Lib.hid hB; have HBL := Lib.hid hBl; have HNB := Lib.hid hNb
  have hm := hr.maxn
  clear hT hr hN hsb hl hB hBl hNb hb0
  go_enter Tryz.func52, Tryz.ntmps52
  go_upto_region 1 with fail
  have F0 := Lib.hid hF; clear hF
  obtain ⟨p, hp⟩ : ∃ p, Hid (w.heap.size = p) := ⟨_, Lib.hid rfl⟩
  rw [hp.out] at F0 FN ⊢
  generalize w.alloc (.cells #[.int .i64 r, .int .i64 s, .int .i64 wd] 85) = W1 at *
  have FS : Hid (∀ wr, Same (fun k => k = b) W1 wr → wr.heap[p]? = some (.cells #[.int .i64 r, .int .i64 s, .int .i64 wd] 85 (0, 0))) := Lib.hid (fun wr h => (h.block p (blk_lt F0.out) FN.out).trans F0.out)
  have RS : Hid (∀ wr, Same (fun k => k = b) W1 wr → RdI wr sa l.length sc l) := Lib.hid (fun wr h => R0.out.ne h (fun x o e => HSB.out x o e))
  go_wp2_with fail
  go_loopw [7, 8, 11] (fun _ _ i wr => ∃ k : Nat, i = .int .i64 k ∧ k ≤ l.length ∧ Hid (TAt wr b (coverL off wd T (l.take k))) ∧ Hid (Same (fun k => k = b) W1 wr)) (fun _ _ i _ => l.length - (intOf i).toNat)
  case atStart => exact ⟨0, rfl, Nat.zero_le _, Lib.hid (by simpa [coverL] using T0.out), Lib.hid (Same.refl _ _)⟩
  case round =>
    obtain ⟨k, rfl, hk, HT, HS⟩ := hrel
    by_cases hlt : k < l.length
    · have t0 : decide ((k : Int) < (l.length : Int)) = true := by simp; omega
      obtain ⟨x, Hx⟩ : ∃ x, l[k]? = some x := ⟨l[k], List.getElem?_eq_getElem hlt⟩
      have HX := Lib.hid Hx
      obtain ⟨bs, so, ha0, hat⟩ := (RS.out wr HS.out).at (by omega)
      have hx0 := hat k hlt
      rw [Hx, Option.getD_some] at hx0
      have hxl := HL.out x (List.mem_of_getElem? Hx)
      clear hat Hx
      obtain ⟨j0, hj0⟩ : ∃ j0 : Nat, x = j0 := ⟨x.toNat, by omega⟩
      subst hj0
      have hxN : j0 + wd ≤ N := by omega
      have TK : Hid (∀ v ∈ coverL off wd T (l.take k), 0 ≤ v ∧ v ≤ 1000000000000 - 1) := Lib.hid (fun v hv => by have := coverL_bnd off wd (l.take k) T B HB.out v hv; rw [List.length_take] at this; have := HBL.out; omega)
      have TL : Hid ((coverL off wd T (l.take k)).length = T.length) := Lib.hid (coverL_len _ _ _ _)
      have HSN : Hid (coverL off wd T (l.take (k + 1)) = addTo (coverL off wd T (l.take k)) (off + j0) (off + j0 + wd)) := Lib.hid (by rw [take_snoc HX.out, coverL_snoc]; rfl)
      obtain ⟨U, hU⟩ : ∃ U, Hid (coverL off wd T (l.take k) = U) := ⟨_, Lib.hid rfl⟩
      rw [hU.out] at TK TL HT HSN
      rw [ha0]
      clear hxl
      have HNx := Lib.hid hxN
      have HX0 := Lib.hid hx0
      have hNb := HNB.out
      go_upto_region 4 with fail
      clear hx0 t0
      go_wp2_with fail
      go_loopw [8] (fun i wr => ∃ j : Nat, i = .int .i64 j ∧ j0 ≤ j ∧ j ≤ j0 + wd ∧ Hid (TAt wr b (addTo U (off + j0) (off + j))) ∧ Hid (Same (fun k => k = b) W1 wr)) (fun i _ => j0 + wd - (intOf i).toNat)
      case atStart => exact ⟨j0, rfl, Nat.le_refl _, by omega, Lib.hid (by rw [addTo_none]; exact HT.out), HS⟩
      case round =>
        obtain ⟨j, rfl, hj1, hj2, HTj, HSj⟩ := hrel
        have F2 := cell_of (FS.out _ HSj.out) 2 (.int .i64 wd) rfl
        have hs1 : (j0 : Int) + (wd : Int) ≤ 9223372036854775807 := by omega
        by_cases hj : j < j0 + wd
        · have t1 : decide ((j : Int) < (j0 : Int) + (wd : Int)) = true := by simp; omega
          obtain ⟨v, hv⟩ : ∃ v, U[off + j]? = some v := ⟨U[off + j]'(by rw [TL.out]; have := HN.out; omega), List.getElem?_eq_getElem (by rw [TL.out]; have := HN.out; omega)⟩
          have hvb := TK.out v (List.mem_of_getElem? hv)
          have hva : (addTo U (off + j0) (off + j))[off + j]? = some v := by
            rw [addTo_at, hv]; simp
          have hc := HTj.out.at hva
          have hfz := HTj.out.free (off + j)
          have TN : Hid (TAt (wr.setCell ⟨b, off + j, none⟩ (.int .i64 (v + 1))) b (addTo U (off + j0) (off + (j + 1)))) := Lib.hid (by
            have := HTj.out.set (off + j) (v + 1)
            rwa [addTo_step U (off + j0) (off + j) (by omega) v hv] at this)
          have SN := Lib.hid (HSj.out.trans (same_set1 wr b (off + j) (.int .i64 (v + 1))))
          have hjN : j < N := by omega
          clear hv hva hj2
          go_wp2_with fail
          go_roundw
          case rel => exact ⟨j + 1, by go_num, by omega, by omega, TN, SN⟩
          case measure => simp [intOf]; omega
        · have hje : j = j0 + wd := by omega
          subst hje
          have t1 : decide (((j0 + wd : Nat) : Int) < (j0 : Int) + (wd : Int)) = false := by simp
          have TN : Hid (TAt wr b (coverL off wd T (l.take (k + 1)))) := Lib.hid (by rw [HSN.out, Nat.add_assoc]; exact HTj.out)
          go_wp2_with fail
          go_roundw
          case rel => exact ⟨k + 1, by go_num, by omega, TN, HSj⟩
          case measure => simp [intOf]; omega
    · have hkn : k = l.length := by omega
      have TN : Hid (TAt wr b (coverL off wd T l)) := Lib.hid (by have := HT.out; rwa [hkn, List.take_length] at this)
      have SN := Lib.hid (S0.out.trans HS.out)
      have t0 : decide ((k : Int) < (l.length : Int)) = false := by simp; omega
      go_wp2_with fail
      go_end0
      exact ⟨rfl, TN.out, SN.out⟩
end Go.Proofs.YtpjiakgfegnmcaaGreat
namespace Go.Proofs.YtpjiakgfegnmcaaGreat
set_option linter.unusedSimpArgs false
open Go.RowKit

theorem made_ints (n : Nat) : madeCells (Value.int .i64 0).cells n = ((List.replicate n (0 : Int)).map intV).toArray := by
  unfold madeCells
  apply Array.ext
  · simp
  · intro i h1 h2
    simp [Value.cells, intV, Nat.mod_one]
theorem run_make_ints (n : Nat) (hn : n ≤ 1000000) (w : World) : (Instr.makeSlice 38 (.int .i64 (n : Int)) (.int .i64 (n : Int))).run Tryz.prog w = .ok (.slice (some ⟨w.heap.size, 0, none⟩) n n) (w.alloc (.cells ((List.replicate n (0 : Int)).map intV).toArray 3)) := by
  obtain ⟨i, hi, hz0, hz1, hz2⟩ := info_parts infoInt
  have h := run_make (P := Tryz.prog) w 38 3 i (.int .i64 0) Tryz.underlying38 hi hz0 .i64 .i64 n n (by omega) (Int.le_refl _) (by rw [hz2]; omega) (by omega)
  simp only [Int.toNat_natCast, hz1, Nat.mul_one] at h
  rw [made_ints] at h
  exact h
/-- The strokes of one event on a ring. -/
def sonIs (st rg : Int) (e : EvV) : Bool := e.x.n.kind == 4 && (e.x.n.stone == st && e.x.n.ring == rg)
def sonOne (wd : Nat) (st rg : Int) (T : List Int) (e : EvV) : List Int := if sonIs st rg e = true then coverL 0 wd T e.x.n.strokes else T
def sonL (wd : Nat) (st rg : Int) (es : List EvV) (T : List Int) : List Int := es.foldl (sonOne wd st rg) T
theorem sonL_snoc (wd : Nat) (st rg : Int) (es : List EvV) (e : EvV) (T : List Int) : sonL wd st rg (es ++ [e]) T = sonOne wd st rg (sonL wd st rg es T) e := by simp [sonL, List.foldl_append]
theorem sonL_len (wd : Nat) (st rg : Int) : ∀ (es : List EvV) (T : List Int), (sonL wd st rg es T).length = T.length
  | [], _ => rfl
  | e :: es, T => by
    have h := sonL_len wd st rg es (sonOne wd st rg T e)
    have h2 : (sonOne wd st rg T e).length = T.length := by unfold sonOne; split <;> simp [coverL_len]
    rw [h2] at h
    exact h
theorem sonL_bnd (wd : Nat) (st rg : Int) : ∀ (es : List EvV) (T : List Int) (B : Int), (∀ e ∈ es, e.x.n.kind = 4 → e.x.n.strokes.length ≤ 200) → (∀ v ∈ T, 0 ≤ v ∧ v ≤ B) → ∀ v ∈ sonL wd st rg es T, 0 ≤ v ∧ v ≤ B + 200 * es.length
  | [], T, B, _, h, v, hv => by have := h v hv; simp; omega
  | e :: es, T, B, hl, h, v, hv => by
    have h2 : ∀ v ∈ sonOne wd st rg T e, 0 ≤ v ∧ v ≤ B + 200 := by
      intro u hu
      unfold sonOne at hu
      split at hu
      · rename_i hs
        have hk : e.x.n.kind = 4 := by simp only [sonIs, Bool.and_eq_true, beq_iff_eq] at hs; exact hs.1
        have h3 := coverL_bnd 0 wd e.x.n.strokes T B h u hu
        have h4 := hl e (List.mem_cons_self ..) hk
        omega
      · have := h u hu; omega
    have h5 := sonL_bnd wd st rg es _ (B + 200) (fun x hx => hl x (List.mem_cons_of_mem _ hx)) h2 v hv
    simp only [List.length_cons]
    omega
/-- What StrokesOn gives; none: an error. -/
def sonV (f : FrV) (hs es : List EvV) (st rg : Int) : Option (List Int) := if (f.valid && (regOkB f hs es && (inB st 0 1 && inB rg 0 (f.rings - 1)))) = true then some (sonL f.wide.toNat st rg es (List.replicate f.sectors.toNat 0)) else none
theorem formed_strokes {f : FrV} {n : NoteV} (h : formedB f n = true) (hk : n.kind = 4) : strokesB (f.sectors - f.wide) n.strokes = true := by
  simp only [formedB, Bool.and_eq_true] at h
  have h1 := h.1
  simp only [okB, hk, saidB] at h1
  simp at h1
  exact h1.2.2
theorem strokesB_parts {m : Int} {l : List Int} (h : strokesB m l = true) : l.length ≤ 200 ∧ ∀ x ∈ l, 0 ≤ x ∧ x ≤ m := by
  simp only [strokesB, Bool.and_eq_true, decide_eq_true_eq, inB_true] at h
  refine ⟨by omega, fun x hx => ?_⟩
  obtain ⟨i, hi⟩ := List.getElem?_of_mem hx
  have hlt := (List.getElem?_eq_some_iff.1 hi).1
  have h1 := (h.1 i hlt).1
  rw [hi, Option.getD_some] at h1
  exact inB_true.1 h1
theorem goodAll_mem {f : FrV} : ∀ {l : List EvV} {ks : List Nm}, goodAll f ks l = true → ∀ e ∈ l, formedB f e.x.n = true ∧ e.x.nm = e.nm ∧ doneB e.x.n = true
  | [], _, _, e, he => by cases he
  | x :: l, ks, h, e, he => by
    simp only [goodAll, Bool.and_eq_true] at h
    rcases List.mem_cons.1 he with rfl | he
    · have h1 := h.1
      simp only [goodE, Bool.and_eq_true, decide_eq_true_eq] at h1
      exact ⟨h1.2.1, h1.2.2.1, h1.1⟩
    · exact goodAll_mem h.2 e he
theorem regOk_mem {f : FrV} {hs es : List EvV} (h : regOkB f hs es = true) : hs.length ≤ 8 ∧ es.length ≤ 400 ∧ ∀ e ∈ hs ++ es, formedB f e.x.n = true ∧ e.x.nm = e.nm ∧ doneB e.x.n = true := by
  simp only [regOkB, Bool.and_eq_true, decide_eq_true_eq] at h
  exact ⟨h.1, h.2.1, goodAll_mem h.2.2.1⟩
def SonEnd (o : Option (List Int)) (w : World) (e : Ending) (w' : World) : Prop := match o with
  | none => e = .returned (.tuple #[.slice none 0 0, .int .i64 1])
  | some T => ∃ b, e = .returned (.tuple #[.slice (some ⟨b, 0, none⟩) T.length T.length, .int .i64 0]) ∧ TAt w' b T ∧ w.heap.size ≤ b

set_option maxHeartbeats 16000000 in
set_option maxRecDepth 100000 in
theorem strokesOn_any (f : FrV) (hs es : List EvV) (ha : Option Addr) (hn hc : Nat) (ea : Option Addr) (en ec : Nat) (v3 : Value) (st rg : Int) (w : World)
    (h1 : RdA w 21 ha hn hc (evCells hs)) (h2 : RdA w 21 ea en ec (evCells es)) (hok : ∀ e ∈ hs ++ es, e.x.ok w) :
    Calls Tryz.prog 16 #[f.val, .agg #[.slice ha hn hc, .slice ea en ec, v3], .int .i64 st, .int .i64 rg] w fun e w' => SonEnd (sonV f hs es st rg) w e w' ∧ Below w.heap.size w w' := by
  have hvl : f.val = .agg #[.int .i64 f.rings, .int .i64 f.sectors, .int .i64 f.wide] := rfl
  have HVL := Lib.hid hvl
  have RGK := Lib.hid (fun (W : World) (hv : f.valid = true) a b c => regOk_any f hs es ha hn hc ea en ec v3 W hv a b c)
  rw [hvl] at RGK ⊢; clear hvl
  have I21 := Lib.hid (show ∀ (x : EvV), (Tryz.prog.info? 53).map (·.size) = some (evA x).size from fun x => by kernel_rfl)
  have I43 := Lib.hid (show ∀ (m : NoteV) (a : Option Addr) (c : Nat), (Tryz.prog.info? 51).map (·.size) = some (noteA m a c).size from fun m a c => by kernel_rfl)
  have J21 : (Tryz.prog.info? 53).map (·.size) = some 21 := by kernel_rfl
  have LE : Hid (es.length = en) := Lib.hid (by have := h2.len; rw [evCells_len] at this; omega)
  have B0 := Lib.hid (((Below.refl w.heap.size w).alloc (Nat.le_refl _) (.cells #[.int .i64 f.rings, .int .i64 f.sectors, .int .i64 f.wide] 23)).alloc (by simp) (.cells #[.slice ha hn hc, .slice ea en ec, v3] 27))
  have F0 := Lib.hid (heap_before _ (.cells #[.slice ha hn hc, .slice ea en ec, v3] 27) _ _ (heap_last w (.cells #[.int .i64 f.rings, .int .i64 f.sectors, .int .i64 f.wide] 23)))
  have P0 := Lib.hid (heap_at (w.alloc (.cells #[.int .i64 f.rings, .int .i64 f.sectors, .int .i64 f.wide] 23)) (.cells #[.slice ha hn hc, .slice ea en ec, v3] 27) (w.heap.size + 1) (by simp))
  have R0 := Lib.hid (h1.below B0.out)
  have R9 := Lib.hid (h2.below B0.out)
  have OK0 := Lib.hid (evs_ok hok B0.out)
  clear h1 h2 hok
  go_enter Tryz.func16, Tryz.ntmps16
  go_upto_region 1 with fail
  obtain ⟨pF, hpF⟩ : ∃ pF, Hid (w.heap.size = pF) := ⟨_, Lib.hid rfl⟩
  obtain ⟨pR, hpR⟩ : ∃ pR, Hid (w.heap.size + 1 = pR) := ⟨_, Lib.hid rfl⟩
  rw [hpR.out, hpF.out]
  rw [hpF.out] at F0
  rw [hpR.out] at P0
  generalize (w.alloc (.cells #[.int .i64 f.rings, .int .i64 f.sectors, .int .i64 f.wide] 23)).alloc (.cells #[.slice ha hn hc, .slice ea en ec, v3] 27) = W0 at *
  have f0 := cell_of F0.out 0 (.int .i64 f.rings) rfl
  have f1 := cell_of F0.out 1 (.int .i64 f.sectors) rfl
  have f2 := cell_of F0.out 2 (.int .i64 f.wide) rfl
  have hbt : Below W0.heap.size W0 (W0.alloc (.cells #[.int .i64 f.rings, .int .i64 f.sectors, .int .i64 f.wide] 85)) := (Below.refl _ _).alloc (Nat.le_refl _) _
  have X1 := Lib.hid (heap_last W0 (.cells #[.int .i64 f.rings, .int .i64 f.sectors, .int .i64 f.wide] 85))
  have B1 := Lib.hid (B0.out.trans (hbt.mono B0.out.size))
  have F1 := Lib.hid (below_blk hbt F0.out)
  have P1 := Lib.hid (below_blk hbt P0.out)
  have R1 := Lib.hid (R0.out.below hbt)
  have R2 := Lib.hid (R9.out.below hbt)
  have OK := Lib.hid (evs_ok OK0.out hbt)
  clear hbt R0 R9 OK0 P0 B0
  go_upto_region 2 with fail
  clear f0 f1 f2
  obtain ⟨p10, hp10⟩ : ∃ p10, Hid (W0.heap.size = p10) := ⟨_, Lib.hid rfl⟩
  rw [hp10.out] at X1 ⊢
  generalize W0.alloc (.cells #[.int .i64 f.rings, .int .i64 f.sectors, .int .i64 f.wide] 85) = W1 at *
  have x0 := cell_of X1.out 0 (.int .i64 f.rings) rfl
  have x1 := cell_of X1.out 1 (.int .i64 f.sectors) rfl
  have x2 := cell_of X1.out 2 (.int .i64 f.wide) rfl
  have p0 := cell_of P1.out 0 (.slice ha hn hc) rfl
  have p1 := cell_of P1.out 1 (.slice ea en ec) rfl
  have p2 := cell_of P1.out 2 v3 rfl
  cases hv : f.valid
  · have GR : Hid (sonV f hs es st rg = none) := Lib.hid (by unfold sonV; rw [if_neg]; simp [hv])
    have HV := Lib.hid hv; have HVV := HV; clear hv
    go_wp2_with (first
      | (go_at_call 50
         refine (valid_any f.rings f.sectors f.wide _).mono ?_
         rintro e W2 ⟨rfl, b2⟩
         rw [HVV.out]
         replace B1 := Lib.hid (B1.out.trans (b2.mono B1.out.size))
         replace X1 := Lib.hid (below_blk b2 X1.out)
         replace P1 := Lib.hid (below_blk b2 P1.out)
         replace F1 := Lib.hid (below_blk b2 F1.out)
         replace R1 := Lib.hid (R1.out.below b2)
         replace R2 := Lib.hid (R2.out.below b2)
         replace OK := Lib.hid (evs_ok OK.out b2)
         clear b2 x0 x1 x2 p0 p1 p2
         have x0 := cell_of X1.out 0 (.int .i64 f.rings) rfl
         have x1 := cell_of X1.out 1 (.int .i64 f.sectors) rfl
         have x2 := cell_of X1.out 2 (.int .i64 f.wide) rfl
         have p0 := cell_of P1.out 0 (.slice ha hn hc) rfl
         have p1 := cell_of P1.out 1 (.slice ea en ec) rfl
         have p2 := cell_of P1.out 2 v3 rfl
         dsimp only)
      | (go_at_call 51
         refine (RGK.out _ HV.out R1.out R2.out OK.out).mono ?_
         rintro e W3 ⟨rfl, b3⟩
         rw [HRR.out]
         replace B1 := Lib.hid (B1.out.trans (b3.mono B1.out.size))
         replace X1 := Lib.hid (below_blk b3 X1.out)
         replace P1 := Lib.hid (below_blk b3 P1.out)
         replace F1 := Lib.hid (below_blk b3 F1.out)
         replace R1 := Lib.hid (R1.out.below b3)
         replace R2 := Lib.hid (R2.out.below b3)
         replace OK := Lib.hid (evs_ok OK.out b3)
         clear b3 x0 x1 x2 p0 p1 p2
         have g0 := cell_of F1.out 0 (.int .i64 f.rings) rfl
         dsimp only)
      | (go_at_call 48
         refine (hin_any _ _ _ _).mono ?_
         rintro e W3 ⟨rfl, rfl⟩
         first | rw [HST.out] | rw [HRG.out]
         dsimp only)
      | fail)
    go_ret2
    rw [GR.out]
    exact ⟨rfl, B1.out⟩
  · have HV := Lib.hid hv; have HVV := HV; clear hv
    cases hrr : regOkB f hs es
    · have GR : Hid (sonV f hs es st rg = none) := Lib.hid (by unfold sonV; rw [if_neg]; simp [hrr])
      have HRR := Lib.hid hrr; clear hrr
      go_wp2_with (first
        | (go_at_call 50
           refine (valid_any f.rings f.sectors f.wide _).mono ?_
           rintro e W2 ⟨rfl, b2⟩
           rw [HVV.out]
           replace B1 := Lib.hid (B1.out.trans (b2.mono B1.out.size))
           replace X1 := Lib.hid (below_blk b2 X1.out)
           replace P1 := Lib.hid (below_blk b2 P1.out)
           replace F1 := Lib.hid (below_blk b2 F1.out)
           replace R1 := Lib.hid (R1.out.below b2)
           replace R2 := Lib.hid (R2.out.below b2)
           replace OK := Lib.hid (evs_ok OK.out b2)
           clear b2 x0 x1 x2 p0 p1 p2
           have x0 := cell_of X1.out 0 (.int .i64 f.rings) rfl
           have x1 := cell_of X1.out 1 (.int .i64 f.sectors) rfl
           have x2 := cell_of X1.out 2 (.int .i64 f.wide) rfl
           have p0 := cell_of P1.out 0 (.slice ha hn hc) rfl
           have p1 := cell_of P1.out 1 (.slice ea en ec) rfl
           have p2 := cell_of P1.out 2 v3 rfl
           dsimp only)
        | (go_at_call 51
           refine (RGK.out _ HV.out R1.out R2.out OK.out).mono ?_
           rintro e W3 ⟨rfl, b3⟩
           rw [HRR.out]
           replace B1 := Lib.hid (B1.out.trans (b3.mono B1.out.size))
           replace X1 := Lib.hid (below_blk b3 X1.out)
           replace P1 := Lib.hid (below_blk b3 P1.out)
           replace F1 := Lib.hid (below_blk b3 F1.out)
           replace R1 := Lib.hid (R1.out.below b3)
           replace R2 := Lib.hid (R2.out.below b3)
           replace OK := Lib.hid (evs_ok OK.out b3)
           clear b3 x0 x1 x2 p0 p1 p2
           have g0 := cell_of F1.out 0 (.int .i64 f.rings) rfl
           dsimp only)
        | (go_at_call 48
           refine (hin_any _ _ _ _).mono ?_
           rintro e W3 ⟨rfl, rfl⟩
           first | rw [HST.out] | rw [HRG.out]
           dsimp only)
        | fail)
      go_ret2
      rw [GR.out]
      exact ⟨rfl, B1.out⟩
    · have HRR := Lib.hid hrr; clear hrr
      cases hst : inB st 0 1
      · have GR : Hid (sonV f hs es st rg = none) := Lib.hid (by unfold sonV; rw [if_neg]; simp [hst])
        have HST := Lib.hid hst; clear hst
        go_wp2_with (first
          | (go_at_call 50
             refine (valid_any f.rings f.sectors f.wide _).mono ?_
             rintro e W2 ⟨rfl, b2⟩
             rw [HVV.out]
             replace B1 := Lib.hid (B1.out.trans (b2.mono B1.out.size))
             replace X1 := Lib.hid (below_blk b2 X1.out)
             replace P1 := Lib.hid (below_blk b2 P1.out)
             replace F1 := Lib.hid (below_blk b2 F1.out)
             replace R1 := Lib.hid (R1.out.below b2)
             replace R2 := Lib.hid (R2.out.below b2)
             replace OK := Lib.hid (evs_ok OK.out b2)
             clear b2 x0 x1 x2 p0 p1 p2
             have x0 := cell_of X1.out 0 (.int .i64 f.rings) rfl
             have x1 := cell_of X1.out 1 (.int .i64 f.sectors) rfl
             have x2 := cell_of X1.out 2 (.int .i64 f.wide) rfl
             have p0 := cell_of P1.out 0 (.slice ha hn hc) rfl
             have p1 := cell_of P1.out 1 (.slice ea en ec) rfl
             have p2 := cell_of P1.out 2 v3 rfl
             dsimp only)
          | (go_at_call 51
             refine (RGK.out _ HV.out R1.out R2.out OK.out).mono ?_
             rintro e W3 ⟨rfl, b3⟩
             rw [HRR.out]
             replace B1 := Lib.hid (B1.out.trans (b3.mono B1.out.size))
             replace X1 := Lib.hid (below_blk b3 X1.out)
             replace P1 := Lib.hid (below_blk b3 P1.out)
             replace F1 := Lib.hid (below_blk b3 F1.out)
             replace R1 := Lib.hid (R1.out.below b3)
             replace R2 := Lib.hid (R2.out.below b3)
             replace OK := Lib.hid (evs_ok OK.out b3)
             clear b3 x0 x1 x2 p0 p1 p2
             have g0 := cell_of F1.out 0 (.int .i64 f.rings) rfl
             dsimp only)
          | (go_at_call 48
             refine (hin_any _ _ _ _).mono ?_
             rintro e W3 ⟨rfl, rfl⟩
             first | rw [HST.out] | rw [HRG.out]
             dsimp only)
          | fail)
        go_ret2
        rw [GR.out]
        exact ⟨rfl, B1.out⟩
      · have HST := Lib.hid hst; clear hst
        have hfv : (1 ≤ f.rings ∧ f.rings ≤ 24) ∧ (2 ≤ f.sectors ∧ f.sectors ≤ 96) ∧ (1 ≤ f.wide ∧ f.wide ≤ f.sectors) := by
          have h := HV.out
          simp only [FrV.valid, Bool.and_eq_true, inB_true] at h
          exact ⟨h.1, h.2.1, h.2.2⟩
        have HFV := Lib.hid hfv; clear hfv
        have hr1 := HFV.out.1.1
        have hr2 := HFV.out.1.2
        cases hrg : inB rg 0 (f.rings - 1)
        · have GR : Hid (sonV f hs es st rg = none) := Lib.hid (by unfold sonV; rw [if_neg]; simp [hrg])
          have HRG := Lib.hid hrg; clear hrg
          go_wp2_with (first
            | (go_at_call 50
               refine (valid_any f.rings f.sectors f.wide _).mono ?_
               rintro e W2 ⟨rfl, b2⟩
               rw [HVV.out]
               replace B1 := Lib.hid (B1.out.trans (b2.mono B1.out.size))
               replace X1 := Lib.hid (below_blk b2 X1.out)
               replace P1 := Lib.hid (below_blk b2 P1.out)
               replace F1 := Lib.hid (below_blk b2 F1.out)
               replace R1 := Lib.hid (R1.out.below b2)
               replace R2 := Lib.hid (R2.out.below b2)
               replace OK := Lib.hid (evs_ok OK.out b2)
               clear b2 x0 x1 x2 p0 p1 p2
               have x0 := cell_of X1.out 0 (.int .i64 f.rings) rfl
               have x1 := cell_of X1.out 1 (.int .i64 f.sectors) rfl
               have x2 := cell_of X1.out 2 (.int .i64 f.wide) rfl
               have p0 := cell_of P1.out 0 (.slice ha hn hc) rfl
               have p1 := cell_of P1.out 1 (.slice ea en ec) rfl
               have p2 := cell_of P1.out 2 v3 rfl
               dsimp only)
            | (go_at_call 51
               refine (RGK.out _ HV.out R1.out R2.out OK.out).mono ?_
               rintro e W3 ⟨rfl, b3⟩
               rw [HRR.out]
               replace B1 := Lib.hid (B1.out.trans (b3.mono B1.out.size))
               replace X1 := Lib.hid (below_blk b3 X1.out)
               replace P1 := Lib.hid (below_blk b3 P1.out)
               replace F1 := Lib.hid (below_blk b3 F1.out)
               replace R1 := Lib.hid (R1.out.below b3)
               replace R2 := Lib.hid (R2.out.below b3)
               replace OK := Lib.hid (evs_ok OK.out b3)
               clear b3 x0 x1 x2 p0 p1 p2
               have g0 := cell_of F1.out 0 (.int .i64 f.rings) rfl
               dsimp only)
            | (go_at_call 48
               refine (hin_any _ _ _ _).mono ?_
               rintro e W3 ⟨rfl, rfl⟩
               first | rw [HST.out] | rw [HRG.out]
               dsimp only)
            | fail)
          go_ret2
          rw [GR.out]
          exact ⟨rfl, B1.out⟩
        · have HRG := Lib.hid hrg; clear hrg
          have HSN : Hid (sonV f hs es st rg = some (sonL f.wide.toNat st rg es (List.replicate f.sectors.toNat 0))) := Lib.hid (by unfold sonV; rw [if_pos]; rw [HV.out, HRR.out, HST.out, HRG.out]; rfl)
          have HMEM := Lib.hid (regOk_mem HRR.out)
          go_upto_region 4 with (first
            | (go_at_call 50
               refine (valid_any f.rings f.sectors f.wide _).mono ?_
               rintro e W2 ⟨rfl, b2⟩
               rw [HVV.out]
               replace B1 := Lib.hid (B1.out.trans (b2.mono B1.out.size))
               replace X1 := Lib.hid (below_blk b2 X1.out)
               replace P1 := Lib.hid (below_blk b2 P1.out)
               replace F1 := Lib.hid (below_blk b2 F1.out)
               replace R1 := Lib.hid (R1.out.below b2)
               replace R2 := Lib.hid (R2.out.below b2)
               replace OK := Lib.hid (evs_ok OK.out b2)
               clear b2 x0 x1 x2 p0 p1 p2
               have x0 := cell_of X1.out 0 (.int .i64 f.rings) rfl
               have x1 := cell_of X1.out 1 (.int .i64 f.sectors) rfl
               have x2 := cell_of X1.out 2 (.int .i64 f.wide) rfl
               have p0 := cell_of P1.out 0 (.slice ha hn hc) rfl
               have p1 := cell_of P1.out 1 (.slice ea en ec) rfl
               have p2 := cell_of P1.out 2 v3 rfl
               dsimp only)
            | (go_at_call 51
               refine (RGK.out _ HV.out R1.out R2.out OK.out).mono ?_
               rintro e W3 ⟨rfl, b3⟩
               rw [HRR.out]
               replace B1 := Lib.hid (B1.out.trans (b3.mono B1.out.size))
               replace X1 := Lib.hid (below_blk b3 X1.out)
               replace P1 := Lib.hid (below_blk b3 P1.out)
               replace F1 := Lib.hid (below_blk b3 F1.out)
               replace R1 := Lib.hid (R1.out.below b3)
               replace R2 := Lib.hid (R2.out.below b3)
               replace OK := Lib.hid (evs_ok OK.out b3)
               clear b3 x0 x1 x2 p0 p1 p2
               have g0 := cell_of F1.out 0 (.int .i64 f.rings) rfl
               dsimp only)
            | (go_at_call 48
               refine (hin_any _ _ _ _).mono ?_
               rintro e W3 ⟨rfl, rfl⟩
               first | rw [HST.out] | rw [HRG.out]
               dsimp only)
            | fail)
          have g1 := cell_of F1.out 1 (.int .i64 f.sectors) rfl
          obtain ⟨sn, hsn⟩ : ∃ sn : Nat, Hid (f.sectors = sn) := ⟨f.sectors.toNat, Lib.hid (by have := HFV.out; omega)⟩
          obtain ⟨wd, hwd⟩ : ∃ wd : Nat, Hid (f.wide = wd) := ⟨f.wide.toNat, Lib.hid (by have := HFV.out; omega)⟩
          have HSW : Hid (sn ≤ 96 ∧ 1 ≤ wd ∧ wd ≤ sn) := Lib.hid (by have := HFV.out; have := hsn.out; have := hwd.out; omega)
          clear g0 hr1 hr2
          rw [hsn.out] at g1 X1
          rw [hwd.out] at X1
          rw [hsn.out, hwd.out] at HSN ⊢
          rw [Int.toNat_natCast, Int.toNat_natCast] at HSN
          obtain ⟨T0, hT0⟩ : ∃ T0, Hid (List.replicate sn (0 : Int) = T0) := ⟨_, Lib.hid rfl⟩
          have hmk := fun W => run_make_ints sn (by have := HSW.out; omega) W
          rw [hT0.out] at hmk HSN
          have TL0 : Hid (T0.length = sn) := Lib.hid (by rw [← hT0.out]; simp)
          have TB0 : Hid (∀ v ∈ T0, 0 ≤ v ∧ v ≤ 0) := Lib.hid (fun v hv => by rw [← hT0.out] at hv; have := List.eq_of_mem_replicate hv; omega)
          go_upto_region 5 with fail
          clear hmk
          obtain ⟨b, hb⟩ : ∃ b, Hid (W3.heap.size = b) := ⟨_, Lib.hid rfl⟩
          have hbt : Below W3.heap.size W3 (W3.alloc (.cells (T0.map intV).toArray 3)) := (Below.refl _ _).alloc (Nat.le_refl _) _
          have TT : Hid (TAt (W3.alloc (.cells (T0.map intV).toArray 3)) b T0) := Lib.hid (heap_at W3 _ b hb.out)
          have X4 := Lib.hid (below_blk hbt X1.out)
          have P4 := Lib.hid (below_blk hbt P1.out)
          have B4 := Lib.hid (B1.out.trans (hbt.mono B1.out.size))
          have E4 := Lib.hid (RdEs.of_rd (R2.out.below hbt))
          have OK4 := Lib.hid (evs_ok OK.out hbt)
          have HXB : Hid (p10 ≠ b) := Lib.hid (by rw [← hb.out]; have := blk_lt X1.out; omega)
          have HBW : Hid (w.heap.size ≤ b) := Lib.hid (by rw [← hb.out]; exact B1.out.size)
          have NB : Hid (∀ e ∈ hs ++ es, 0 < e.x.n.strokes.length → ∀ x o, e.x.sa = some ⟨x, o, none⟩ → x ≠ b) := Lib.hid (fun e he h0 x o ha' => by
            obtain ⟨x', o', h1, h2⟩ := (show RdI W3 e.x.sa e.x.n.strokes.length e.x.sc e.x.n.strokes from OK.out e he).at h0
            have h3 := World.block_lt_of_cell? W3 _ (h2 0 h0)
            rw [ha'] at h1
            cases h1
            simp only at h3
            have := hb.out
            omega)
          have ENB : Hid (∀ (x : Nat) o, ea = some ⟨x, o, none⟩ → 0 < en → x ≠ b) := Lib.hid (fun x o ha' h0 => by
            obtain ⟨x', o', h1, h2⟩ := (RdEs.of_rd R2.out).at h0
            have h4 : 0 < es.length := by rw [LE.out]; exact h0
            have h3 := World.block_lt_of_cell? W3 _ (h2 0 _ (List.getElem?_eq_getElem h4) 0 _ rfl)
            rw [ha'] at h1
            cases h1
            simp only at h3
            have := hb.out
            omega)
          rw [hb.out]
          clear hbt X1 P1 F1 R1 R2 OK B1
          generalize W3.alloc (.cells (T0.map intV).toArray 3) = W5 at *
          have c1 := cell_of P4.out 1 (.slice ea en ec) rfl
          go_wp2_with fail
          clear c1
          have XS : Hid (∀ wr, Same (fun k => k = b) W5 wr → wr.heap[p10]? = some (.cells #[.int .i64 f.rings, .int .i64 sn, .int .i64 wd] 85 (0, 0))) := Lib.hid (fun wr h => same_blk h X4.out HXB.out)
          have BS : Hid (∀ wr, Same (fun k => k = b) W5 wr → Below w.heap.size w wr) := Lib.hid (fun wr h => h.below B4.out B4.out.size (fun k e => by rw [e]; exact HBW.out))
          have KL : Hid (∀ e ∈ es, e.x.n.kind = 4 → e.x.n.strokes.length ≤ 200) := Lib.hid (fun e he hk => (strokesB_parts (formed_strokes (HMEM.out.2.2 e (List.mem_append_right _ he)).1 hk)).1)
          go_loopw [45] (fun i wr => ∃ k : Nat, i = .int .i64 k ∧ k ≤ en ∧ Hid (TAt wr b (sonL wd st rg (es.take k) T0)) ∧ Hid (Same (fun k => k = b) W5 wr)) (fun i _ => en - (intOf i).toNat)
          case atStart => exact ⟨0, rfl, Nat.zero_le _, TT, Lib.hid (Same.refl _ _)⟩
          case round =>
            obtain ⟨k, rfl, hk, HT, HS⟩ := hrel
            by_cases hlt : k < en
            · have t0 : decide ((k : Int) < (en : Int)) = true := by simp; omega
              obtain ⟨x, Hx⟩ : ∃ x, es[k]? = some x := ⟨es[k]'(by rw [LE.out]; exact hlt), List.getElem?_eq_getElem (by rw [LE.out]; exact hlt)⟩
              have HX := Lib.hid Hx
              obtain ⟨bs, off, ha0, hat⟩ := E4.out.at (by omega)
              subst ha0
              have HRA := Lib.hid (show wr.rangeAt bs (off + k * 21) x.cells from fun j v hv => by
                have h5 := hat k x Hx j v hv
                rw [← h5]
                simp only [World.cell?, HS.out.block bs (World.block_lt_of_cell? W5 _ h5) (ENB.out bs off rfl (by omega))])
              have HMX := Lib.hid (List.mem_of_getElem? Hx)
              clear hat Hx
              obtain ⟨o, hoo⟩ : ∃ o, Hid (off + k * 21 = o) := ⟨_, Lib.hid rfl⟩
              rw [hoo.out] at HRA
              have hix := fun W => idx_off (W := W) (c := ec) (b := bs) Tryz.underlying24 J21 hlt hoo.out
              go_upto_region 8 with (first
                | (refine wpList_load_mid rfl 53 _ rfl bs o rfl x.cells _ HRA.out Tryz.underlying53 rfl (by exact J21) ?_)
                | (refine wpList_alloc_ev rfl rfl ?_)
                | (refine wpList_store_newp _ rfl 53 _ _ rfl _ rfl _ (evA x) rfl rfl (I21.out _) rfl (evA_all x) ?_)
                | fail)
              clear hix t0
              simp only [Act.put, List.setIfInBounds_toArray, List.set_cons_zero, List.set_cons_succ]
              have hbt : Below wr.heap.size wr (wr.alloc (.cells (evA x) 53)) := (Below.refl _ _).alloc (Nat.le_refl _) _
              have XT := Lib.hid (heap_last wr (.cells (evA x) 53))
              have T7 : Hid (TAt (wr.alloc (.cells (evA x) 53)) b (sonL wd st rg (es.take k) T0)) := Lib.hid (below_blk hbt HT.out)
              have S7 := Lib.hid (HS.out.trans (Same.of_below hbt))
              clear hbt HT HS HRA
              obtain ⟨p13, hp13⟩ : ∃ p13, Hid (wr.heap.size = p13) := ⟨_, Lib.hid rfl⟩
              rw [hp13.out] at XT ⊢
              generalize wr.alloc (.cells (evA x) 53) = W7 at *
              go_upto_region 9 with (first
                | (refine wpList_load_mid rfl 51 _ rfl p13 2 rfl (x.x.n.cells x.x.sa x.x.sc) _ (ev_note XT.out) Tryz.underlying51 rfl (size43 x.x.n x.x.sa x.x.sc) ?_)
                | (refine wpList_store_newp _ rfl 51 _ _ rfl _ rfl _ (noteA x.x.n x.x.sa x.x.sc) rfl rfl (I43.out _ _ _) rfl (noteA_one _ _ _) ?_)
                | fail)
              try simp only [Act.put, List.setIfInBounds_toArray, List.set_cons_zero, List.set_cons_succ]
              have hbt : Below W7.heap.size W7 (W7.alloc (.cells (noteA x.x.n x.x.sa x.x.sc) 51)) := (Below.refl _ _).alloc (Nat.le_refl _) _
              have NT := Lib.hid (heap_last W7 (.cells (noteA x.x.n x.x.sa x.x.sc) 51))
              have T8 : Hid (TAt (W7.alloc (.cells (noteA x.x.n x.x.sa x.x.sc) 51)) b (sonL wd st rg (es.take k) T0)) := Lib.hid (below_blk hbt T7.out)
              have S8 := Lib.hid (S7.out.trans (Same.of_below hbt))
              clear hbt T7 S7 XT
              obtain ⟨p14, hp14⟩ : ∃ p14, Hid (W7.heap.size = p14) := ⟨_, Lib.hid rfl⟩
              rw [hp14.out] at NT ⊢
              generalize W7.alloc (.cells (noteA x.x.n x.x.sa x.x.sc) 51) = W8 at *
              have d4 := cell_of NT.out 4 (.int .i64 x.x.n.kind) rfl
              have d5 := cell_of NT.out 5 (.int .i64 x.x.n.stone) rfl
              have d14 := cell_of NT.out 14 (.int .i64 x.x.n.ring) rfl
              have d15 := cell_of NT.out 15 (.slice x.x.sa x.x.n.strokes.length x.x.sc) rfl
              have hk64 : (k : Int) + 1 ≤ 9223372036854775807 := by have := HMEM.out.2.1; have := LE.out; omega
              obtain ⟨U, hU⟩ : ∃ U, Hid (sonL wd st rg (es.take k) T0 = U) := ⟨_, Lib.hid rfl⟩
              have SN : Hid (sonL wd st rg (es.take (k + 1)) T0 = sonOne wd st rg U x) := Lib.hid (by rw [take_snoc HX.out, sonL_snoc, hU.out])
              have UB : Hid (∀ v ∈ U, 0 ≤ v ∧ v ≤ 80000) := Lib.hid (by
                rw [← hU.out]
                intro v hv
                have h1 := sonL_bnd wd st rg (es.take k) T0 0 (fun e he => KL.out e (List.mem_of_mem_take he)) TB0.out v hv
                have h2 : (es.take k).length ≤ 400 := by rw [List.length_take]; have := HMEM.out.2.1; omega
                omega)
              have UL : Hid (U.length = sn) := Lib.hid (by rw [← hU.out, sonL_len, TL0.out])
              rw [hU.out] at T8
              clear hU
              cases hs4 : (x.x.n.kind == 4)
              · have SE : Hid (sonL wd st rg (es.take (k + 1)) T0 = U) := Lib.hid (by rw [SN.out, sonOne, if_neg]; simp [sonIs, hs4])
                go_wp2_with fail
                go_roundw
                case rel => exact ⟨k + 1, by go_num, by omega, Lib.hid (by rw [SE.out]; exact T8.out), S8⟩
                case measure => simp [intOf]; omega
              · cases hs5 : (x.x.n.stone == st)
                · have SE : Hid (sonL wd st rg (es.take (k + 1)) T0 = U) := Lib.hid (by rw [SN.out, sonOne, if_neg]; simp [sonIs, hs5])
                  go_wp2_with fail
                  go_roundw
                  case rel => exact ⟨k + 1, by go_num, by omega, Lib.hid (by rw [SE.out]; exact T8.out), S8⟩
                  case measure => simp [intOf]; omega
                · cases hs6 : (x.x.n.ring == rg)
                  · have SE : Hid (sonL wd st rg (es.take (k + 1)) T0 = U) := Lib.hid (by rw [SN.out, sonOne, if_neg]; simp [sonIs, hs6])
                    go_wp2_with fail
                    go_roundw
                    case rel => exact ⟨k + 1, by go_num, by omega, Lib.hid (by rw [SE.out]; exact T8.out), S8⟩
                    case measure => simp [intOf]; omega
                  · have SE : Hid (sonL wd st rg (es.take (k + 1)) T0 = coverL 0 wd U x.x.n.strokes) := Lib.hid (by rw [SN.out, sonOne, if_pos]; simp [sonIs, hs4, hs5, hs6])
                    have HSP : Hid (x.x.n.strokes.length ≤ 200 ∧ ∀ y ∈ x.x.n.strokes, 0 ≤ y ∧ y ≤ (sn : Int) - wd) := Lib.hid (by
                      have h1 := strokesB_parts (formed_strokes (HMEM.out.2.2 x (List.mem_append_right _ HMX.out)).1 (by simpa using hs4))
                      rw [hsn.out, hwd.out] at h1
                      exact h1)
                    have HSL : Hid (0 < x.x.n.strokes.length) := Lib.hid (by
                      have h1 := formed_strokes (HMEM.out.2.2 x (List.mem_append_right _ HMX.out)).1 (by simpa using hs4)
                      simp only [strokesB, Bool.and_eq_true, inB_true] at h1
                      omega)
                    have X8 := Lib.hid (XS.out _ S8.out)
                    have x0 := cell_of X8.out 0 (.int .i64 f.rings) rfl
                    have x1 := cell_of X8.out 1 (.int .i64 sn) rfl
                    have x2 := cell_of X8.out 2 (.int .i64 wd) rfl
                    have NBX := Lib.hid (NB.out x (List.mem_append_right _ HMX.out) HSL.out)
                    have RX := Lib.hid (show RdI W8 x.x.sa x.x.n.strokes.length x.x.sc x.x.n.strokes from RdI.ne (OK4.out x (List.mem_append_right _ HMX.out)) S8.out (fun y o' e => NBX.out y o' e))
                    go_wp2_with (first
                      | (go_at_call 52
                         refine (covers_any f.rings sn wd b 0 sn sn U x.x.n.strokes x.x.sa x.x.sc 80000 W8 T8.out (by have := UL.out; omega) RX.out NBX.out (fun y hy => by have := HSP.out.2 y hy; have := HSW.out; omega) UB.out (by have := HSP.out.1; omega) (by have := HSW.out; omega)).mono ?_
                         rintro e W9 ⟨rfl, t9, s9⟩
                         have T9 := Lib.hid t9
                         have S9 := Lib.hid (S8.out.trans s9)
                         clear t9 s9
                         dsimp only)
                      | fail)
                    go_roundw
                    case rel => exact ⟨k + 1, by go_num, by omega, Lib.hid (by rw [SE.out]; exact T9.out), S9⟩
                    case measure => simp [intOf]; omega
            · have t0 : decide ((k : Int) < (en : Int)) = false := by simp; omega
              have TE : Hid (TAt wr b (sonL wd st rg es T0)) := Lib.hid (by have := HT.out; rwa [List.take_of_length_le (by have := LE.out; omega)] at this)
              have LL : Hid ((sonL wd st rg es T0).length = sn) := Lib.hid (by rw [sonL_len, TL0.out])
              have BE := Lib.hid (BS.out wr HS.out)
              go_wp2_with fail
              go_ret2
              rw [HSN.out]
              exact ⟨⟨b, by rw [LL.out]; rfl, TE.out, HBW.out⟩, BE.out⟩
end Go.Proofs.YtpjiakgfegnmcaaGreat
namespace Go.Proofs.YtpjiakgfegnmcaaGreat
set_option linter.unusedSimpArgs false
open Go.RowKit

theorem sameInts_any (a : Option Addr) (n c : Nat) (l : List Int) (a' : Option Addr) (n' c' : Nat) (l' : List Int) (w : World) (hr : RdI w a n c l) (hr' : RdI w a' n' c' l') :
    Calls Tryz.prog 18 #[.slice a n c, .slice a' n' c'] w fun e w' => e = .returned (.bool (decide (l = l'))) ∧ ∃ q, w' = w.drewN q := by
  have hm := RdI.maxn hr
  have hl := Lib.hid hr.len
  have hl' := Lib.hid hr'.len
  by_cases hnn : n = n'
  · subst hnn
    have QF : Hid ((∀ j, j < n → l[j]?.getD 0 = l'[j]?.getD 0) → decide (l = l') = true) := Lib.hid (fun h => by rw [decide_eq_true_eq]; exact ilist_ext (by rw [hl.out, hl'.out]) (fun j hj => h j (by rw [hl.out] at hj; omega)))
    have QG : Hid (∀ j : Nat, l[j]?.getD 0 ≠ l'[j]?.getD 0 → decide (l = l') = false) := Lib.hid (fun j h => by rw [decide_eq_false_iff_not]; intro e; rw [e] at h; exact h rfl)
    generalize decide (l = l') = q at *
    go_enter Tryz.func18, Tryz.ntmps18
    go_wp2
    go_loopw [5] (fun i wr => ∃ k : Nat, k ≤ n ∧ i = .int .i64 k ∧ (∀ j, j < k → l[j]?.getD 0 = l'[j]?.getD 0) ∧ ∃ q, wr = w.drewN q) (fun i _ => n - (intOf i).toNat)
    case atStart => exact ⟨0, Nat.zero_le _, rfl, fun j hj => by omega, 0, rfl⟩
    case round =>
      obtain ⟨k, hk, rfl, hrl, q, rfl⟩ := hrel
      have HR := Lib.hid hrl; clear hrl
      by_cases hlt : k < n
      · obtain ⟨b, off, rfl, hc⟩ := hr.at (by omega)
        obtain ⟨b', off', rfl, hc'⟩ := hr'.at (by omega)
        have hx := hc k hlt
        have hx' := hc' k hlt
        clear hc hc' hr hr'
        have hk64 : (k : Int) ≤ 9223372036854775807 := by omega
        by_cases he : l[k]?.getD 0 = l'[k]?.getD 0
        · have hb := int_eq he
          have HE := Lib.hid he; clear he
          go_wp2
          go_quiet (fail)
          go_wp2
          go_roundw
          case rel => exact ⟨k + 1, by omega, by go_num, fun j hj => by
            rcases Nat.lt_succ_iff_lt_or_eq.1 hj with h | h
            · exact HR.out j h
            · rw [h]; exact HE.out, _, rfl⟩
          case measure => simp [intOf]; omega
        · have hb := int_ne he
          have HE := Lib.hid (QG.out k he); clear he
          go_wp2
          go_quiet (fail)
          go_wp2
          go_ret
          exact ⟨by rw [HE.out]; rfl, _, World.drewN_drewN _ _ _⟩
      · have HE := Lib.hid (QF.out (fun j hj => HR.out j (by omega)))
        go_wp2
        go_ret
        exact ⟨by rw [HE.out]; rfl, _, rfl⟩
  · have hb : (((n : Nat) : Int) != ((n' : Nat) : Int)) = true := by rw [bne_iff_ne]; omega
    have hm' := RdI.maxn hr'
    have HE : Hid (decide (l = l') = false) := Lib.hid (by rw [decide_eq_false_iff_not]; intro e; rw [e] at hl; exact hnn (hl.out.symm.trans hl'.out))
    clear hnn
    go_enter Tryz.func18, Tryz.ntmps18
    go_wp2
    go_ret
    exact ⟨by rw [HE.out]; rfl, 0, rfl⟩
theorem rdNm_at {W : World} {a : Option Addr} {n c : Nat} {l : List Nm} (h : RdA W 2 a n c (nmCells l)) (h0 : 0 < n) : ∃ b off, a = some ⟨b, off, none⟩ ∧ ∀ i x, l[i]? = some x → W.cell? ⟨b, off + i * 2, none⟩ = some (.int .i64 x.1) ∧ W.cell? ⟨b, off + i * 2 + 1, none⟩ = some (.int .i64 x.2) := by
  rcases h.2.2.2 with h5 | ⟨b, off, rfl, h4⟩
  · have := h.2.1; omega
  · refine ⟨b, off, rfl, fun i x hx => ?_⟩
    rw [nmCells_eq] at h4
    have hf := fun j hj => flat_at 2 (l.map nmRow) (by intro r hr; obtain ⟨y, _, rfl⟩ := List.mem_map.1 hr; rfl) i (nmRow x) (by rw [List.getElem?_map, hx]; rfl) j hj
    have h6 := h4 (i * 2 + 0) _ ((hf 0 (by omega)).trans rfl)
    have h7 := h4 (i * 2 + 1) _ ((hf 1 (by omega)).trans rfl)
    exact ⟨h6, by rwa [← Nat.add_assoc] at h7⟩
theorem nlist_ext {l m : List Nm} (h : l.length = m.length) (hj : ∀ j, j < l.length → l[j]? = m[j]?) : l = m := by
  apply List.ext_getElem?
  intro j
  rcases Nat.lt_or_ge j l.length with h1 | h1
  · exact hj j h1
  · rw [List.getElem?_eq_none h1, List.getElem?_eq_none (by omega)]
set_option maxHeartbeats 2000000 in
set_option maxRecDepth 100000 in
theorem sameNames_any (a : Option Addr) (n c : Nat) (l : List Nm) (a' : Option Addr) (n' c' : Nat) (l' : List Nm) (w : World) (hr : RdA w 2 a n c (nmCells l)) (hr' : RdA w 2 a' n' c' (nmCells l')) :
    Calls Tryz.prog 37 #[.slice a n c, .slice a' n' c'] w fun e w' => e = .returned (.bool (decide (l = l'))) ∧ ∃ q, w' = w.drewN q := by
  have hm := hr.maxn
  have I2 : (Tryz.prog.info? 29).map (·.size) = some 2 := by kernel_rfl
  have hl := Lib.hid (show l.length = n by have := hr.len; rw [nmCells_len] at this; omega)
  have hl' := Lib.hid (show l'.length = n' by have := hr'.len; rw [nmCells_len] at this; omega)
  by_cases hnn : n = n'
  · subst hnn
    have QF : Hid ((∀ j, j < n → l[j]? = l'[j]?) → decide (l = l') = true) := Lib.hid (fun h => by rw [decide_eq_true_eq]; exact nlist_ext (by rw [hl.out, hl'.out]) (fun j hj => h j (by rw [hl.out] at hj; omega)))
    have QG : Hid (∀ j : Nat, l[j]? ≠ l'[j]? → decide (l = l') = false) := Lib.hid (fun j h => by rw [decide_eq_false_iff_not]; intro e; rw [e] at h; exact h rfl)
    generalize decide (l = l') = q at *
    go_enter Tryz.func37, Tryz.ntmps37
    go_wp2
    go_loopw [5] (fun i wr => ∃ k : Nat, k ≤ n ∧ i = .int .i64 k ∧ (∀ j, j < k → l[j]? = l'[j]?) ∧ ∃ q, wr = w.drewN q) (fun i _ => n - (intOf i).toNat)
    case atStart => exact ⟨0, Nat.zero_le _, rfl, fun j hj => by omega, 0, rfl⟩
    case round =>
      obtain ⟨k, hk, rfl, hrl, q, rfl⟩ := hrel
      have HR := Lib.hid hrl; clear hrl
      by_cases hlt : k < n
      · obtain ⟨b, off, rfl, hc⟩ := rdNm_at hr (by omega)
        obtain ⟨b', off', rfl, hc'⟩ := rdNm_at hr' (by omega)
        obtain ⟨x, Hx⟩ : ∃ x, l[k]? = some x := ⟨l[k]'(by rw [hl.out]; exact hlt), List.getElem?_eq_getElem (by rw [hl.out]; exact hlt)⟩
        obtain ⟨y, Hy⟩ : ∃ y, l'[k]? = some y := ⟨l'[k]'(by rw [hl'.out]; exact hlt), List.getElem?_eq_getElem (by rw [hl'.out]; exact hlt)⟩
        obtain ⟨hx0, hx1⟩ := hc k x Hx
        obtain ⟨hy0, hy1⟩ := hc' k y Hy
        have HX := Lib.hid Hx; have HY := Lib.hid Hy
        clear hc hc' hr hr' Hx Hy
        obtain ⟨o, ho⟩ : ∃ o, Hid (off + k * 2 = o) := ⟨_, Lib.hid rfl⟩
        obtain ⟨o', ho'⟩ : ∃ o', Hid (off' + k * 2 = o') := ⟨_, Lib.hid rfl⟩
        rw [ho.out] at hx0 hx1
        rw [ho'.out] at hy0 hy1
        have hi := fun W => idx_off (W := W) (c := c) (b := b) Tryz.underlying25 I2 hlt ho.out
        have hi' := fun W => idx_off (W := W) (c := c') (b := b') Tryz.underlying25 I2 hlt ho'.out
        have hk64 : (k : Int) ≤ 9223372036854775807 := by omega
        by_cases he : x = y
        · have e1 : x.1 = y.1 := by rw [he]
          have e2 : x.2 = y.2 := by rw [he]
          have HE := Lib.hid he; clear he
          rw [e1] at hx0; rw [e2] at hx1
          clear e1 e2
          go_wp2
          go_quiet (fail)
          go_wp2
          go_roundw
          case rel => exact ⟨k + 1, by omega, by go_num, fun j hj => by
            rcases Nat.lt_succ_iff_lt_or_eq.1 hj with h | h
            · exact HR.out j h
            · rw [h, HX.out, HY.out, HE.out], _, rfl⟩
          case measure => simp [intOf]; omega
        · have HE := Lib.hid (QG.out k (by rw [HX.out, HY.out]; simpa using he))
          have hne : ¬ (x.1 = y.1 ∧ x.2 = y.2) := fun h => he (Prod.ext h.1 h.2)
          clear he
          by_cases e1 : x.1 = y.1
          · have e2 : (x.2 == y.2) = false := by rw [beq_eq_false_iff_ne]; exact fun h => hne ⟨e1, h⟩
            rw [e1] at hx0
            clear hne e1
            go_wp2
            go_quiet (fail)
            go_wp2
            go_ret
            exact ⟨by rw [HE.out]; rfl, _, World.drewN_drewN _ _ _⟩
          · have e2 : (x.1 == y.1) = false := by rw [beq_eq_false_iff_ne]; exact e1
            clear hne e1
            go_wp2
            go_quiet (fail)
            go_wp2
            go_ret
            exact ⟨by rw [HE.out]; rfl, _, World.drewN_drewN _ _ _⟩
      · have HE := Lib.hid (QF.out (fun j hj => HR.out j (by omega)))
        go_wp2
        go_ret
        exact ⟨by rw [HE.out]; rfl, _, rfl⟩
  · have hb : (((n : Nat) : Int) != ((n' : Nat) : Int)) = true := by rw [bne_iff_ne]; omega
    have hm' := hr'.maxn
    have HE : Hid (decide (l = l') = false) := Lib.hid (by rw [decide_eq_false_iff_not]; intro e; rw [e] at hl; exact hnn (hl.out.symm.trans hl'.out))
    clear hnn
    go_enter Tryz.func37, Tryz.ntmps37
    go_wp2
    go_ret
    exact ⟨by rw [HE.out]; rfl, 0, rfl⟩
end Go.Proofs.YtpjiakgfegnmcaaGreat
namespace Go.Proofs.YtpjiakgfegnmcaaGreat
set_option linter.unusedSimpArgs false
open Go.RowKit

set_option maxHeartbeats 8000000 in
set_option maxRecDepth 100000 in
theorem fold_ok (f : FrV) (a : Option Addr) (n c : Nat) (l : List NoteV) (w : World) (hr : RdNs w a n c l) (hok : ∀ x ∈ l, x.Ok) (hset : (checkSetP f l).1 = 0) (hclk : ∀ x ∈ l, x.clock ≤ 1099511627776) (hlen : l.length ≤ 6) (hstr : ∀ x ∈ l, x.strokes.length ≤ 1000000)
    (hk : ∀ x ∈ l, doneB x = false → x.kind = 6 ∨ (1 ≤ x.fix ∧ x.fix ≤ 4)) :
    Calls Tryz.prog 31 #[f.val, .slice a n c] w fun e w' => AsEnd l 99999 w e w' ∧ Below w.heap.size w w' := by
  have HR := Lib.hid hr; clear hr
  have B0 := Lib.hid ((((Below.refl w.heap.size w).alloc (Nat.le_refl _) (.cells #[.int .i64 f.rings, .int .i64 f.sectors, .int .i64 f.wide] 23)).alloc (by simp) (.cells #[.slice none 0 0, .slice none 0 0, .slice none 0 0] 27)))
  have F0 := Lib.hid (heap_before _ (.cells #[.slice none 0 0, .slice none 0 0, .slice none 0 0] 27) _ _ (heap_last w (.cells #[.int .i64 f.rings, .int .i64 f.sectors, .int .i64 f.wide] 23)))
  have P0 := Lib.hid (heap_at (w.alloc (.cells #[.int .i64 f.rings, .int .i64 f.sectors, .int .i64 f.wide] 23)) (.cells #[.slice none 0 0, .slice none 0 0, .slice none 0 0] 27) (w.heap.size + 1) (by simp))
  have HA := Lib.hid (fun W hb => asOf_ok f a n c l 99999 1099511627776 W (HR.out.below (show Below w.heap.size w W from hb)) hok hset hclk hlen hstr hk)
  clear hok hset hclk hlen hstr hk
  have hvl : f.val = .agg #[.int .i64 f.rings, .int .i64 f.sectors, .int .i64 f.wide] := rfl
  rw [hvl] at HA ⊢
  go_enter Tryz.func31, Tryz.ntmps31
  go_upto_region 1 with fail
  obtain ⟨pF, hpF⟩ : ∃ pF, Hid (w.heap.size = pF) := ⟨_, Lib.hid rfl⟩
  obtain ⟨p, hp⟩ : ∃ p, Hid (w.heap.size + 1 = p) := ⟨_, Lib.hid rfl⟩
  rw [hp.out, hpF.out]
  rw [hpF.out] at F0
  rw [hp.out] at P0
  generalize (w.alloc (.cells #[.int .i64 f.rings, .int .i64 f.sectors, .int .i64 f.wide] 23)).alloc (.cells #[.slice none 0 0, .slice none 0 0, .slice none 0 0] 27) = w0 at *
  have f0 := cell_of F0.out 0 (.int .i64 f.rings) rfl
  have f1 := cell_of F0.out 1 (.int .i64 f.sectors) rfl
  have f2 := cell_of F0.out 2 (.int .i64 f.wide) rfl
  go_wp2_with (first
    | (go_at_call 20
       refine (HA.out w0 B0.out).mono ?_
       rintro e w4 ⟨⟨v, xs, ks, J, rfl, hxs, hnd, hal, hjo, hE⟩, hb4⟩
       have HE := Lib.hid hE
       have HX := Lib.hid (And.intro hxs (And.intro hnd (And.intro hal hjo)))
       obtain ⟨R, ha, hc, ea, ec, ca, cc, ys, ks2, hv, -⟩ := hE
       obtain rfl : v = _ := by injection hv
       have P4 := Lib.hid (below_blk hb4 P0.out)
       have B4 := Lib.hid (B0.out.trans (hb4.mono B0.out.size))
       clear hb4 hxs hnd hal hjo
       dsimp only)
    | (refine wpList_store_blkP rfl 27 _ _ rfl p #[.slice none 0 0, .slice none 0 0, .slice none 0 0] #[.slice ha R.hs.length hc, .slice ea R.es.length ec, .slice ca R.cs.length cc] 27 rfl rfl P4.out (by kernel_rfl) rfl (by simp [Value.oneCell']) ?_; intro w5 hr1 hr2 hr3)
    | fail)
  have B5 : Hid (Below w.heap.size w w5) := Lib.hid (B4.out.grown hr2 B4.out.size (fun k e => by cases e; have := hp.out; omega))
  have HE5 := Lib.hid ((HE.out.kept P4.out hr2).mono B0.out.size)
  refine bodyPost_ret (results_cell_row_tmp rfl _ w5 p 27 _ (0, 0) _ rfl hr1 Tryz.underlying27 rfl (by kernel_rfl)) rfl ?_
  exact ⟨⟨_, xs, ks, J, rfl, HX.out.1, HX.out.2.1, HX.out.2.2.1, HX.out.2.2.2, HE5.out⟩, B5.out⟩
end Go.Proofs.YtpjiakgfegnmcaaGreat
namespace Go.Proofs.YtpjiakgfegnmcaaGreat
set_option linter.unusedSimpArgs false
open Go.RowKit

theorem lnCells_len (xs : List LN) : (lnCells xs).length = xs.length * 19 := by
  rw [lnCells, flat_len 19 _ (by intro r hr; obtain ⟨e, _, rfl⟩ := List.mem_map.1 hr; rfl), List.length_map]
theorem rdNs_of {W : World} {a : Option Addr} {n c : Nat} {xs : List LN} (h : RdA W 19 a n c (lnCells xs)) (hs : ∀ x ∈ xs, x.ok W) : RdNs W a n c (xs.map LN.n) := by
  have hl : xs.length = n := by have := h.len; rw [lnCells_len] at this; omega
  refine ⟨by rw [List.length_map, hl], h.2.1, h.2.2.1, ?_⟩
  rcases h.2.2.2 with h0 | ⟨b, off, rfl, h4⟩
  · exact .inl h0
  · rcases Nat.eq_zero_or_pos n with hn | hn
    · refine .inr ⟨b, off, rfl, fun i x hx => ?_⟩
      have : xs = [] := List.eq_nil_of_length_eq_zero (by omega)
      subst this
      simp at hx
    · obtain ⟨b', off', e, hat⟩ := ln_at h hn
      cases e
      refine .inr ⟨b, off, rfl, fun i x hx => ?_⟩
      rw [List.getElem?_map] at hx
      cases hy : xs[i]? with
      | none => simp [hy] at hx
      | some y =>
        simp only [hy, Option.map_some, Option.some.injEq] at hx
        subst hx
        exact ⟨y.sa, y.sc, hat i y hy, hs y (List.mem_of_getElem? hy)⟩
def smpX (sb : Nat) : List LN := [⟨smp1, none, 0⟩, ⟨smp2, none, 0⟩, ⟨smp3, some ⟨sb, 0, none⟩, 3⟩]
def lateX (sb : Nat) : List LN := [⟨smp1, none, 0⟩, ⟨smp2, none, 0⟩, ⟨smp3, some ⟨sb, 0, none⟩, 3⟩, ⟨smp4, none, 0⟩]
theorem i64_dec {z : Int} (h : decide (-9223372036854775808 ≤ z ∧ z ≤ 9223372036854775807) = true) : I64 z := by
  have := of_decide_eq_true h
  unfold I64
  omega
theorem late_Ok : ∀ x ∈ lateL, x.Ok := by
  intro x hx
  simp only [lateL, List.mem_cons, List.not_mem_nil, or_false] at hx
  rcases hx with rfl | rfl | rfl | rfl
  all_goals
    constructor
    all_goals first
      | exact i64_dec (by decide)
      | (intro z hz; simp [smp1, smp2, smp3, smp4, zeroN] at hz; rcases hz with rfl | rfl <;> exact i64_dec (by decide))
      | (intro z hz; simp [smp1, smp2, smp3, smp4, zeroN] at hz)
theorem smp_Ok : ∀ x ∈ smpL, x.Ok := fun x hx => late_Ok x (by simp only [smpL, lateL, List.mem_cons, List.not_mem_nil, or_false] at hx ⊢; rcases hx with h | h | h <;> simp [h])
theorem smp_facts : (∀ x ∈ lateL, x.clock ≤ 1099511627776) ∧ (∀ x ∈ lateL, x.strokes.length ≤ 1000000) ∧ (∀ x ∈ lateL, doneB x = false → x.kind = 6 ∨ (1 ≤ x.fix ∧ x.fix ≤ 4)) := by
  refine ⟨fun x hx => ?_, fun x hx => ?_, fun x hx => ?_⟩ <;>
  · simp only [lateL, List.mem_cons, List.not_mem_nil, or_false] at hx
    rcases hx with rfl | rfl | rfl | rfl <;> decide
theorem smp_late {x : NoteV} (h : x ∈ smpL) : x ∈ lateL := by simp only [smpL, lateL, List.mem_cons, List.not_mem_nil, or_false] at h ⊢; rcases h with h | h | h <;> simp [h]
theorem ev_eta {e : EvV} {n : NoteV} (h : e.x.n = n) (hn : e.nm = nmOf e.x.n) : ∃ s c, e = ⟨nmOf n, ⟨n, s, c⟩⟩ := by
  obtain ⟨nm, ⟨m, s, c⟩⟩ := e
  simp only at h hn
  subst h
  subst hn
  exact ⟨s, c, rfl⟩
theorem len_two {α : Type} {l : List α} (h : l.length = 2) : ∃ a b, l = [a, b] := match l, h with | [a, b], _ => ⟨a, b, rfl⟩
theorem smp_reg {R : RegV} (h1 : R.hs.map (fun e => e.x.n) = (regN 99999 smpL).hs) (h2 : R.es.map (fun e => e.x.n) = (regN 99999 smpL).es) (h3 : R.cs = csN 99999 smpL) (h4 : ∀ e ∈ R.hs ++ R.es, e.nm = nmOf e.x.n) :
    ∃ s1 c1 s2 c2 s3 c3, R = ⟨[⟨(1, 1), ⟨smp1, s1, c1⟩⟩], [⟨(1, 2), ⟨smp2, s2, c2⟩⟩, ⟨(1, 3), ⟨smp3, s3, c3⟩⟩], []⟩ := by
  rw [smp_hs] at h1
  rw [smp_es] at h2
  rw [smp_cs] at h3
  obtain ⟨hs, es, cs⟩ := R
  simp only at h1 h2 h3 h4
  subst h3
  obtain ⟨e1, rfl⟩ : ∃ e1, hs = [e1] := List.length_eq_one_iff.1 (by have := congrArg List.length h1; simpa using this)
  obtain ⟨e2, e3, rfl⟩ : ∃ e2 e3, es = [e2, e3] := len_two (by have := congrArg List.length h2; simpa using this)
  simp only [List.map_cons, List.map_nil, List.cons.injEq, and_true] at h1 h2
  obtain ⟨s1, c1, rfl⟩ := ev_eta h1 (h4 e1 (by simp))
  obtain ⟨s2, c2, rfl⟩ := ev_eta h2.1 (h4 e2 (by simp))
  obtain ⟨s3, c3, rfl⟩ := ev_eta h2.2 (h4 e3 (by simp))
  exact ⟨s1, c1, s2, c2, s3, c3, rfl⟩
section
variable (s1 : Option Addr) (c1 : Nat) (s2 : Option Addr) (c2 : Nat) (s3 : Option Addr) (c3 : Nat)
theorem smp_heap : heapOfV [⟨(1, 1), ⟨smp1, s1, c1⟩⟩] 1 1 = #[.int .i64 0, .int .i64 0] := by kernel_rfl
theorem smp_pass : passesV [⟨(1, 1), ⟨smp1, s1, c1⟩⟩] [⟨(1, 2), ⟨smp2, s2, c2⟩⟩, ⟨(1, 3), ⟨smp3, s3, c3⟩⟩] 0 = (3, 0) := by kernel_rfl
theorem smp_son : sonV smpF [⟨(1, 1), ⟨smp1, s1, c1⟩⟩] [⟨(1, 2), ⟨smp2, s2, c2⟩⟩, ⟨(1, 3), ⟨smp3, s3, c3⟩⟩] 0 1 = some [2, 2, 1, 1] := by kernel_rfl
end
end Go.Proofs.YtpjiakgfegnmcaaGreat
namespace Go.Proofs.YtpjiakgfegnmcaaGreat
set_option linter.unusedSimpArgs false
open Go.RowKit

set_option maxHeartbeats 16000000 in
set_option maxRecDepth 100000 in
theorem hawake_any (w : World) : Calls Tryz.prog 10 #[] w fun e w' => e = .returned (.bool true) ∧ Below w.heap.size w w' := by
  have I3 : ∀ (x y z : Value), (Tryz.prog.info? 27).map (·.size) = some (#[x, y, z] : Array Value).size := fun x y z => by kernel_rfl
  go_enter Tryz.func10, Tryz.ntmps10
  go_upto_region 2 with (first
    | (go_at_call 43
       refine (frame_any _).mono ?_
       rintro e w1 ⟨rfl, hb1⟩
       have B1 := Lib.hid hb1
       clear hb1
       dsimp only)
    | (go_at_call 44
       refine (sample_any _).mono ?_
       rintro e w2 ⟨b, sb, rfl, ho2, hr2, hb2, _⟩
       have B2 := Lib.hid (B1.out.trans (hb2.mono B1.out.size))
       have N2 : Hid (RdNs w2 (some ⟨b, 0, none⟩) 3 3 smpL) := Lib.hid (rdNs_of (xs := smpX sb) (RdA.of_own ho2) (by
         intro x hx
         simp only [smpX, List.mem_cons, List.not_mem_nil, or_false] at hx
         rcases hx with rfl | rfl | rfl
         · exact RdA.nil w2 1
         · exact RdA.nil w2 1
         · exact hr2))
       clear ho2 hr2 hb2
       dsimp only)
    | (go_at_call 31
       refine (fold_ok smpF (some ⟨b, 0, none⟩) 3 3 smpL w2 N2.out smp_Ok smp_set (fun x hx => smp_facts.1 x (smp_late hx)) (by decide) (fun x hx => smp_facts.2.1 x (smp_late hx)) (fun x hx => smp_facts.2.2 x (smp_late hx))).mono ?_
       rintro e w3 ⟨hE, hb3⟩
       obtain ⟨v, R, rfl, ⟨ha, hc, ea, ec, ca, cc, rfl, o1, o2, o3, o4⟩, q1, q2, q3, q4⟩ := asEnd_reg hE (set_ok smp_set).2.2.2
       obtain ⟨s1, c1, s2, c2, s3, c3, rfl⟩ := smp_reg q1 q2 q3 q4
       have B3 := Lib.hid (B2.out.trans (hb3.mono B2.out.size))
       have H3 : Hid (RdA w3 21 ha 1 hc (evCells [⟨(1, 1), ⟨smp1, s1, c1⟩⟩])) := Lib.hid (RdA.of_own o1)
       have E3 : Hid (RdA w3 21 ea 2 ec (evCells [⟨(1, 2), ⟨smp2, s2, c2⟩⟩, ⟨(1, 3), ⟨smp3, s3, c3⟩⟩])) := Lib.hid (RdA.of_own o2)
       have OK3 : Hid (∀ e ∈ ([⟨(1, 1), ⟨smp1, s1, c1⟩⟩] : List EvV) ++ [⟨(1, 2), ⟨smp2, s2, c2⟩⟩, ⟨(1, 3), ⟨smp3, s3, c3⟩⟩], e.x.ok w3) := Lib.hid (fun e he => RdA.of_own (o4 e he))
       clear o1 o2 o3 o4 q1 q2 q3 q4 hE hb3
       simp only [List.length_cons, List.length_nil, Nat.reduceAdd])
    | fail)
  have hbt : Below w3.heap.size w3 (w3.alloc (.cells #[.slice ha 1 hc, .slice ea 2 ec, .slice ca 0 cc] 27)) := (Below.refl _ _).alloc (Nat.le_refl _) _
  have P4 := Lib.hid (heap_last w3 (.cells #[.slice ha 1 hc, .slice ea 2 ec, .slice ca 0 cc] 27))
  have B4 := Lib.hid (B3.out.trans (hbt.mono B3.out.size))
  have H4 := Lib.hid (H3.out.below hbt)
  have E4 := Lib.hid (E3.out.below hbt)
  have OK4 := Lib.hid (evs_ok OK3.out hbt)
  clear hbt H3 E3 OK3 B3 B2 B1 N2
  obtain ⟨p1, hp1⟩ : ∃ p1, Hid (w3.heap.size = p1) := ⟨_, Lib.hid rfl⟩
  rw [hp1.out] at P4 ⊢
  generalize w3.alloc (.cells #[.slice ha 1 hc, .slice ea 2 ec, .slice ca 0 cc] 27) = W4 at *
  have c0 := cell_of P4.out 0 (.slice ha 1 hc) rfl
  have c1' := cell_of P4.out 1 (.slice ea 2 ec) rfl
  have c2' := cell_of P4.out 2 (.slice ca 0 cc) rfl
  go_upto_region 3 with (first
    | (go_at_call 12
       refine (heapOf_any [⟨(1, 1), ⟨smp1, s1, c1⟩⟩] ha 1 hc _ _ 1 1 W4 (RdEs.of_rd H4.out)).mono ?_
       rintro e w5 ⟨rfl, hb5⟩
       rw [smp_heap]
       have B5 := Lib.hid (B4.out.trans (hb5.mono B4.out.size))
       have H5 := Lib.hid (H4.out.below hb5)
       have E5 := Lib.hid (E4.out.below hb5)
       have OK5 := Lib.hid (evs_ok OK4.out hb5)
       have P5 := Lib.hid (below_blk hb5 P4.out)
       clear hb5 H4 E4 OK4 P4 B4
       dsimp only)
    | fail)
  clear c0 c1' c2'
  have c0 := cell_of P5.out 0 (.slice ha 1 hc) rfl
  have c1' := cell_of P5.out 1 (.slice ea 2 ec) rfl
  have c2' := cell_of P5.out 2 (.slice ca 0 cc) rfl
  go_upto_region 4 with (first
    | (go_at_call 14
       refine (passes_any [⟨(1, 1), ⟨smp1, s1, c1⟩⟩] [⟨(1, 2), ⟨smp2, s2, c2⟩⟩, ⟨(1, 3), ⟨smp3, s3, c3⟩⟩] ha 1 hc ea 2 ec _ 0 w5 (RdEs.of_rd H5.out) E5.out).mono ?_
       rintro e w6 ⟨rfl, hb6⟩
       rw [smp_pass]
       have B6 := Lib.hid (B5.out.trans (hb6.mono B5.out.size))
       have H6 := Lib.hid (H5.out.below hb6)
       have E6 := Lib.hid (E5.out.below hb6)
       have OK6 := Lib.hid (evs_ok OK5.out hb6)
       have P6 := Lib.hid (below_blk hb6 P5.out)
       clear hb6 H5 E5 OK5 P5 B5
       dsimp only)
    | fail)
  clear c0 c1' c2'
  refine wp_region_noPanic ?_
  refine wp_region_held_drew (S := fun w' => w'.heap[p1]? = some (.cells #[.slice ha 1 hc, .slice ea 2 ec, .slice ca 0 cc] 27 (0, 0))) (by kernel_rfl) (show w6.drew.heap[p1]? = _ from P6.out) (fun hHeld => ?_)
  refine wpAnyH_take (i := 1) (v := .agg #[.slice ha 1 hc, .slice ea 2 ec, .slice ca 0 cc]) rfl (by kernel_rfl) (by kernel_rfl) (by kernel_rfl) (fun _ _ _ h => h) (Or.inl ⟨by kernel_rfl, by intro W h; have h0 := cell_of h 0 (.slice ha 1 hc) rfl; have h1 := cell_of h 1 (.slice ea 2 ec) rfl; have h2 := cell_of h 2 (.slice ca 0 cc) rfl; go_simp⟩) (by assumption) ?_
  try simp only [Act.put, List.getElem_toArray, List.getElem_cons_succ, List.getElem_cons_zero, List.setIfInBounds_toArray, List.set_cons_zero, List.set_cons_succ]
  refine wpAnyH_ready (rs := [0]) (by kernel_rfl) (by simp) ?_
  refine AllReadyH.cons rfl (fun K hK => ?_) AllReadyH.nil
  go_simp
  go_at_call 43
  refine (frame_any _).mono ?_
  rintro e w7 ⟨rfl, hb7⟩
  have hd7 : Below w6.heap.size w6 w7 := ((Below.refl w6.heap.size w6).drew).trans hb7
  have B7 := Lib.hid (B6.out.trans (hd7.mono B6.out.size))
  have H7 := Lib.hid (H6.out.below hd7)
  have E7 := Lib.hid (E6.out.below hd7)
  have OK7 := Lib.hid (evs_ok OK6.out hd7)
  have P7 := Lib.hid (below_blk hd7 P6.out)
  clear hb7 hd7 H6 E6 OK6 P6 B6
  dsimp only
  refine hK.out _ _ P7.out (fun hHeld => ?_)
  clear hK K
  try simp only [Act.put, List.getElem_toArray, List.getElem_cons_succ, List.getElem_cons_zero, List.setIfInBounds_toArray, List.set_cons_zero, List.set_cons_succ]
  refine wpAnyH_ready (rs := [2]) (by kernel_rfl) (by simp) ?_
  refine AllReadyH.cons rfl (fun K hK => ?_) AllReadyH.nil
  go_simp
  go_at_call 16
  refine (strokesOn_any smpF [⟨(1, 1), ⟨smp1, s1, c1⟩⟩] [⟨(1, 2), ⟨smp2, s2, c2⟩⟩, ⟨(1, 3), ⟨smp3, s3, c3⟩⟩] ha 1 hc ea 2 ec _ 0 1 w7 H7.out E7.out OK7.out).mono ?_
  rintro e w8 ⟨hE, hb8⟩
  rw [smp_son] at hE
  obtain ⟨bT, rfl, ht8, _⟩ := hE
  have T8 : Hid (RdI w8 (some ⟨bT, 0, none⟩) 4 4 [2, 2, 1, 1]) := Lib.hid ⟨rfl, Nat.le_refl _, by unfold maxLen; omega, .inr ⟨bT, 0, rfl, fun i x hx => by rw [Nat.zero_add]; exact cell_of ht8 i x (by simpa using hx)⟩⟩
  have B8 := Lib.hid (B7.out.trans (hb8.mono B7.out.size))
  have P8 := Lib.hid (below_blk hb8 P7.out)
  clear hb8 ht8 H7 E7 OK7 P7 B7
  simp only [List.length_cons, List.length_nil, Nat.reduceAdd]
  refine hK.out _ _ P8.out (fun hHeld => ?_)
  clear hK K
  try simp only [Act.put, List.getElem_toArray, List.getElem_cons_succ, List.getElem_cons_zero, List.setIfInBounds_toArray, List.set_cons_zero, List.set_cons_succ]
  refine wpAnyH_take (i := 3) (v := .tuple #[.slice (some ⟨bT, 0, none⟩) 4 4, .int .i64 0]) rfl (by kernel_rfl) (by kernel_rfl) (by kernel_rfl) (fun _ _ _ h => h) (Or.inl ⟨by kernel_rfl, by intro W _; go_simp⟩) (by assumption) ?_
  try simp only [Act.put, List.getElem_toArray, List.getElem_cons_succ, List.getElem_cons_zero, List.setIfInBounds_toArray, List.set_cons_zero, List.set_cons_succ]
  refine wpAnyH_take (i := 4) (v := .slice (some ⟨bT, 0, none⟩) 4 4) rfl (by kernel_rfl) (by kernel_rfl) (by kernel_rfl) (fun _ _ _ h => h) (Or.inl ⟨by kernel_rfl, by intro W _; go_simp⟩) (by assumption) ?_
  try simp only [Act.put, List.getElem_toArray, List.getElem_cons_succ, List.getElem_cons_zero, List.setIfInBounds_toArray, List.set_cons_zero, List.set_cons_succ]
  refine wpAnyH_take (i := 5) (v := .int .i64 0) rfl (by kernel_rfl) (by kernel_rfl) (by kernel_rfl) (fun _ _ _ h => h) (Or.inl ⟨by kernel_rfl, by intro W _; go_simp⟩) (by assumption) ?_
  try simp only [Act.put, List.getElem_toArray, List.getElem_cons_succ, List.getElem_cons_zero, List.setIfInBounds_toArray, List.set_cons_zero, List.set_cons_succ]
  refine wpAnyH_take (i := 6) (v := .slice (some ⟨bT, 0, none⟩) 4 4) rfl (by kernel_rfl) (by kernel_rfl) (by kernel_rfl) (fun _ _ _ h => h) (Or.inl ⟨by kernel_rfl, by intro W _; go_simp⟩) (by assumption) ?_
  try simp only [Act.put, List.getElem_toArray, List.getElem_cons_succ, List.getElem_cons_zero, List.setIfInBounds_toArray, List.set_cons_zero, List.set_cons_succ]
  refine wpAnyH_take (i := 7) (v := .int .i64 0) rfl (by kernel_rfl) (by kernel_rfl) (by kernel_rfl) (fun _ _ _ h => h) (Or.inl ⟨by kernel_rfl, by intro W _; go_simp⟩) (by assumption) ?_
  try simp only [Act.put, List.getElem_toArray, List.getElem_cons_succ, List.getElem_cons_zero, List.setIfInBounds_toArray, List.set_cons_zero, List.set_cons_succ]
  refine wpAnyH_done (by kernel_rfl) ?_ _
  refine NoPanic.normal ?_
  go_upto_region 6 with (first
    | (go_at_call 44
       refine (sample_any _).mono ?_
       rintro e w9 ⟨bs, sb2, rfl, ho9, hr9, hb9, hne9⟩
       have ha9 : Below w9.heap.size w9 (w9.alloc (.cells (noteA smp4 none 0) 51)) := (Below.refl _ _).alloc (Nat.le_refl _) _
       have hb89 : Below w8.heap.size w8 (w9.alloc (.cells (noteA smp4 none 0) 51)) := hb9.trans (ha9.mono hb9.size)
       have hr89 := hr9.below ha9
       obtain ⟨a', c', w10, hrun, ho10, hg10⟩ := run_app_nt (w9.alloc (.cells (noteA smp4 none 0) 51)) w8.heap.size (some ⟨bs, 0, none⟩) 3 3 _ (own_below ho9 ha9) (some ⟨w9.heap.size, 0, none⟩) 1 1 (smp4.cells none 0) (lit_note w9 smp4 none 0) (fun u hu => smp4.cells_one _ _ u hu) (by omega) hb89.size
       have hgr : Below w8.heap.size w8 w10 := hb89.grown hg10 hb89.size (fun k hk => (ho9.lt k hk).1)
       have B10 := Lib.hid (B8.out.trans (hgr.mono B8.out.size))
       have P10 := Lib.hid (below_blk hgr P8.out)
       have T10 := Lib.hid (T8.out.below hgr)
       have hs10 : RdI w10 (some ⟨sb2, 0, none⟩) 3 3 [0, 0, 2] := RdI.ne hr89 (Same.of_grown (S := fun k => k = bs) hg10 (fun k e => (Option.some.inj e).symm)) (fun x o e => by cases e; exact hne9)
       have N10 : Hid (RdNs w10 a' 4 c' lateL) := Lib.hid (rdNs_of (xs := lateX sb2) (RdA.of_own ho10) (by
         intro x hx
         simp only [lateX, List.mem_cons, List.not_mem_nil, or_false] at hx
         rcases hx with rfl | rfl | rfl | rfl
         · exact RdA.nil w10 1
         · exact RdA.nil w10 1
         · exact hs10
         · exact RdA.nil w10 1))
       clear hb89 ha9 hr89 ho9 hr9 hb9 hne9 ho10 hg10 hgr hs10 B8 P8 T8 hHeld
       dsimp only)
    | (refine wpList_append_eq rfl _ _ _ rfl _ _ _ rfl rfl hrun ?_)
    | fail)
  clear hrun
  go_upto_region 7 with (first
    | (go_at_call 43
       refine (frame_any _).mono ?_
       rintro e w11 ⟨rfl, hb11⟩
       have B11 := Lib.hid (B10.out.trans (hb11.mono B10.out.size))
       have P11 := Lib.hid (below_blk hb11 P10.out)
       have T11 := Lib.hid (T10.out.below hb11)
       have N11 := Lib.hid (N10.out.below hb11)
       clear hb11 B10 P10 T10 N10
       dsimp only)
    | (go_at_call 31
       refine (fold_ok smpF a' 4 c' lateL w11 N11.out late_Ok late_set smp_facts.1 (by decide) smp_facts.2.1 smp_facts.2.2).mono ?_
       rintro e w12 ⟨hE, hb12⟩
       obtain ⟨v, R, rfl, ⟨ha2, hc2, ea2, ec2, ca2, cc2, rfl, o1, o2, o3, o4⟩, q1, q2, q3, q4⟩ := asEnd_reg hE (set_ok late_set).2.2.2
       rw [late_cs] at q3
       rw [q3] at o3
       have C12 : Hid (RdA w12 2 ca2 1 cc2 (nmCells [(1, 2)])) := Lib.hid (RdA.of_own o3)
       rw [q3]
       have B12 := Lib.hid (B11.out.trans (hb12.mono B11.out.size))
       have P12 := Lib.hid (below_blk hb12 P11.out)
       have T12 := Lib.hid (T11.out.below hb12)
       clear o1 o2 o3 o4 q1 q2 q4 hE hb12 B11 P11 T11 N11
       simp only [List.length_cons, List.length_nil, Nat.reduceAdd])
    | fail)
  have hbt : Below w12.heap.size w12 (w12.alloc (.cells #[.slice ha2 R.hs.length hc2, .slice ea2 R.es.length ec2, .slice ca2 1 cc2] 27)) := (Below.refl _ _).alloc (Nat.le_refl _) _
  have Q13 := Lib.hid (heap_last w12 (.cells #[.slice ha2 R.hs.length hc2, .slice ea2 R.es.length ec2, .slice ca2 1 cc2] 27))
  have P13 := Lib.hid (below_blk hbt P12.out)
  have T13 := Lib.hid (T12.out.below hbt)
  have C13 := Lib.hid (C12.out.below hbt)
  have B13 := Lib.hid (B12.out.trans (hbt.mono B12.out.size))
  clear hbt B12 P12 T12 C12
  obtain ⟨p10, hp10⟩ : ∃ p10, Hid (w12.heap.size = p10) := ⟨_, Lib.hid rfl⟩
  rw [hp10.out] at Q13 ⊢
  generalize w12.alloc (.cells #[.slice ha2 R.hs.length hc2, .slice ea2 R.es.length ec2, .slice ca2 1 cc2] 27) = W13 at *
  have ha13 : Below W13.heap.size W13 (W13.alloc (.cells #[.int .i64 2, .int .i64 2, .int .i64 1, .int .i64 1] 3)) := (Below.refl _ _).alloc (Nat.le_refl _) _
  have L13 : Hid (RdI (W13.alloc (.cells #[.int .i64 2, .int .i64 2, .int .i64 1, .int .i64 1] 3)) (some ⟨W13.heap.size, 0, none⟩) 4 4 [2, 2, 1, 1]) :=
    Lib.hid (RdA.of_own (World.ownsRow_lit (base := W13.heap.size) (e := 3) (size := 1) W13 #[.int .i64 2, .int .i64 2, .int .i64 1, .int .i64 1] 4 (Nat.le_refl _) (by unfold maxLen; omega) rfl))
  have T14 := Lib.hid (T13.out.below ha13)
  have BA13 := Lib.hid ha13
  clear ha13
  have d0 := cell_of P13.out 0 (.slice ha 1 hc) rfl
  have d1 := cell_of P13.out 1 (.slice ea 2 ec) rfl
  have d2 := cell_of P13.out 2 (.slice ca 0 cc) rfl
  go_wp2_with (first
    | (go_at_call 18
       refine (sameInts_any _ 4 4 [2, 2, 1, 1] _ 4 4 [2, 2, 1, 1] _ T14.out L13.out).mono ?_
       rintro e w14 ⟨rfl, q14, hw14⟩
       have hb14 : Below W13.heap.size W13 w14 := by rw [hw14]; exact below_drewN BA13.out q14
       have B14 := Lib.hid (B13.out.trans (hb14.mono B13.out.size))
       have Q14 := Lib.hid (below_blk hb14 Q13.out)
       have C14 := Lib.hid (C13.out.below hb14)
       clear hb14 hw14 d0 d1 d2
       have d2 := cell_of Q14.out 2 (.slice ca2 1 cc2) rfl
       have ha14 : Below w14.heap.size w14 (w14.alloc (.cells #[.int .i64 1, .int .i64 2] 29)) := (Below.refl _ _).alloc (Nat.le_refl _) _
       have L14 : Hid (RdA (w14.alloc (.cells #[.int .i64 1, .int .i64 2] 29)) 2 (some ⟨w14.heap.size, 0, none⟩) 1 1 (nmCells [(1, 2)])) :=
         Lib.hid (RdA.of_own (World.ownsRow_lit (base := w14.heap.size) (e := 29) (size := 2) w14 #[.int .i64 1, .int .i64 2] 1 (Nat.le_refl _) (by unfold maxLen; omega) rfl))
       have C15 := Lib.hid (C14.out.below ha14)
       have B15 := Lib.hid (B14.out.trans (ha14.mono B14.out.size))
       clear ha14
       rw [show decide (([2, 2, 1, 1] : List Int) = [2, 2, 1, 1]) = true from by decide]
       dsimp only)
    | (go_at_call 37
       refine (sameNames_any _ 1 cc2 [(1, 2)] _ 1 1 [(1, 2)] _ C15.out L14.out).mono ?_
       rintro e w16 ⟨rfl, q16, hw16⟩
       have B16 : Hid (Below w.heap.size w w16) := Lib.hid (by rw [hw16]; exact below_drewN B15.out q16)
       clear hw16
       rw [show decide (([(1, 2)] : List Nm) = [(1, 2)]) = true from by decide]
       dsimp only)
    | fail)
  go_ret
  exact ⟨rfl, B16.out⟩
end Go.Proofs.YtpjiakgfegnmcaaGreat
namespace Go.Proofs.YtpjiakgfegnmcaaGreat
set_option linter.unusedSimpArgs false
open Go.RowKit

set_option maxHeartbeats 16000000 in
set_option maxRecDepth 100000 in
theorem brief_any (hs es : List EvV) (ha : Option Addr) (hn hc : Nat) (ea : Option Addr) (en ec : Nat) (ca : Option Addr) (cn cc : Nat) (w : World) (h1 : RdEs w ha hn hc hs) (h2 : RdEs w ea en ec es) :
    Calls Tryz.prog 11 #[.agg #[.slice ha hn hc, .slice ea en ec, .slice ca cn cc]] w fun e w' => (∃ q, e = .returned (.bool q)) ∧ Below w.heap.size w w' := by
  have J21 : (Tryz.prog.info? 53).map (·.size) = some 21 := by kernel_rfl
  have hm1 := h1.maxn
  have hm2 := h2.maxn
  have B0 := Lib.hid ((Below.refl w.heap.size w).alloc (Nat.le_refl _) (.cells #[.slice ha hn hc, .slice ea en ec, .slice ca cn cc] 27))
  have P0 := Lib.hid (heap_last w (.cells #[.slice ha hn hc, .slice ea en ec, .slice ca cn cc] 27))
  have R1 := Lib.hid (h1.below B0.out)
  have R2 := Lib.hid (h2.below B0.out)
  clear h1 h2
  go_enter Tryz.func11, Tryz.ntmps11
  go_upto_region 1 with fail
  obtain ⟨p, hp⟩ : ∃ p, Hid (w.heap.size = p) := ⟨_, Lib.hid rfl⟩
  rw [hp.out] at P0 ⊢
  generalize w.alloc (.cells #[.slice ha hn hc, .slice ea en ec, .slice ca cn cc] 27) = W1 at *
  have c0 := cell_of P0.out 0 (.slice ha hn hc) rfl
  have c1 := cell_of P0.out 1 (.slice ea en ec) rfl
  have c2 := cell_of P0.out 2 (.slice ca cn cc) rfl
  cases t1 : decide ((20 : Int) < (hn : Int))
  · cases t2 : decide ((60 : Int) < (en : Int))
    · cases t3 : decide ((1000 : Int) < (cn : Int))
      · go_wp2_with fail
        go_loopw [3] (fun i wr => ∃ k : Nat, i = .int .i64 k ∧ k ≤ hn ∧ W1 = wr) (fun i _ => hn - (intOf i).toNat)
        case atStart => exact ⟨0, rfl, Nat.zero_le _, rfl⟩
        case round =>
          obtain ⟨k, rfl, hk, rfl⟩ := hrel
          by_cases hlt : k < hn
          · have t0 : decide ((k : Int) < (hn : Int)) = true := by simp; omega
            obtain ⟨x, hx⟩ : ∃ x, hs[k]? = some x := ⟨hs[k]'(by have := R1.out.1; omega), List.getElem?_eq_getElem (by have := R1.out.1; omega)⟩
            obtain ⟨b, off, hb, hat⟩ := R1.out.at (by omega)
            have hra := hat k x hx
            obtain ⟨o, ho⟩ : ∃ o, Hid (off + k * 21 = o) := ⟨_, Lib.hid rfl⟩
            rw [ho.out] at hra
            have hix := fun W => idx_off (W := W) (c := hc) (b := b) Tryz.underlying24 J21 hlt ho.out
            have c17 := hra 17 (.slice x.x.sa x.x.n.strokes.length x.x.sc) rfl
            rw [← hb] at hix
            clear hb
            have hk64 : (k : Int) + 1 ≤ 9223372036854775807 := by omega
            clear hat hra hx
            cases s1 : decide ((400 : Int) < (x.x.n.strokes.length : Int))
            · go_wp2_with fail
              go_roundw
              case rel => exact ⟨k + 1, by go_num, by omega, trivial⟩
              case measure => simp [intOf]; omega
            · go_wp2_with fail
              go_ret
              exact ⟨⟨_, rfl⟩, B0.out⟩
          · have t0 : decide ((k : Int) < (hn : Int)) = false := by simp; omega
            go_wp2_with fail
            clear hlt t0 hk
            go_loopw [4] (fun i wr => ∃ k : Nat, i = .int .i64 k ∧ k ≤ en ∧ W1 = wr) (fun i _ => en - (intOf i).toNat)
            case atStart => exact ⟨0, rfl, Nat.zero_le _, rfl⟩
            case round =>
              obtain ⟨k, rfl, hk, rfl⟩ := hrel
              by_cases hlt : k < en
              · have t0 : decide ((k : Int) < (en : Int)) = true := by simp; omega
                obtain ⟨x, hx⟩ : ∃ x, es[k]? = some x := ⟨es[k]'(by have := R2.out.1; omega), List.getElem?_eq_getElem (by have := R2.out.1; omega)⟩
                obtain ⟨b, off, hb, hat⟩ := R2.out.at (by omega)
                have hra := hat k x hx
                obtain ⟨o, ho⟩ : ∃ o, Hid (off + k * 21 = o) := ⟨_, Lib.hid rfl⟩
                rw [ho.out] at hra
                have hix := fun W => idx_off (W := W) (c := ec) (b := b) Tryz.underlying24 J21 hlt ho.out
                have c17 := hra 17 (.slice x.x.sa x.x.n.strokes.length x.x.sc) rfl
                rw [← hb] at hix
                clear hb
                have hk64 : (k : Int) + 1 ≤ 9223372036854775807 := by omega
                clear hat hra hx
                cases s1 : decide ((400 : Int) < (x.x.n.strokes.length : Int))
                · go_wp2_with fail
                  go_roundw
                  case rel => exact ⟨k + 1, by go_num, by omega, trivial⟩
                  case measure => simp [intOf]; omega
                · go_wp2_with fail
                  go_ret
                  exact ⟨⟨_, rfl⟩, B0.out⟩
              · have t0 : decide ((k : Int) < (en : Int)) = false := by simp; omega
                go_wp2_with fail
                go_ret
                exact ⟨⟨_, rfl⟩, B0.out⟩
      · go_wp2_with fail
        go_ret
        exact ⟨⟨_, rfl⟩, B0.out⟩
    · go_wp2_with fail
      go_ret
      exact ⟨⟨_, rfl⟩, B0.out⟩
  · go_wp2_with fail
    go_ret
    exact ⟨⟨_, rfl⟩, B0.out⟩
end Go.Proofs.YtpjiakgfegnmcaaGreat
namespace Go.Proofs.YtpjiakgfegnmcaaGreat
set_option linter.unusedSimpArgs false
open Go.RowKit

set_option maxHeartbeats 16000000 in
set_option maxRecDepth 100000 in
theorem rpasses_any (hs es : List EvV) (ha : Option Addr) (hn hc : Nat) (ea : Option Addr) (en ec : Nat) (v3 : Value) (z : Int) (w : World)
    (h1 : RdEs w ha hn hc hs) (h2 : RdA w 21 ea en ec (evCells es)) :
    Calls Tryz.prog 15 #[.agg #[.slice ha hn hc, .slice ea en ec, v3], .int .i64 z] w fun e w' => e = .returned (.tuple #[.int .i64 (passesV hs es z).1, .int .i64 (passesV hs es z).2]) ∧ Below w.heap.size w w' := by
  have I21 := Lib.hid (show ∀ (x : EvV), (Tryz.prog.info? 53).map (·.size) = some (evA x).size from fun x => by kernel_rfl)
  have I43 := Lib.hid (show ∀ (m : NoteV) (a : Option Addr) (c : Nat), (Tryz.prog.info? 51).map (·.size) = some (noteA m a c).size from fun m a c => by kernel_rfl)
  have J21 : (Tryz.prog.info? 53).map (·.size) = some 21 := by kernel_rfl
  have LH : Hid (hs.length = hn) := Lib.hid h1.1
  have LE : Hid (es.length = en) := Lib.hid (by have := h2.len; rw [evCells_len] at this; omega)
  have B0 := Lib.hid ((Below.refl w.heap.size w).alloc (Nat.le_refl _) (.cells #[.slice ha hn hc, .slice ea en ec, v3] 27))
  have P0 := Lib.hid (heap_last w (.cells #[.slice ha hn hc, .slice ea en ec, v3] 27))
  have R1 := Lib.hid (h1.below B0.out)
  have R2 := Lib.hid (h2.below B0.out)
  have hm1 := h1.maxn
  have hm2 := h2.maxn
  clear h1 h2
  go_enter Tryz.func15, Tryz.ntmps15
  go_upto_region 1 with fail
  obtain ⟨pR, hpR⟩ : ∃ pR, Hid (w.heap.size = pR) := ⟨_, Lib.hid rfl⟩
  rw [hpR.out] at P0 ⊢
  generalize w.alloc (.cells #[.slice ha hn hc, .slice ea en ec, v3] 27) = W1 at *
  have c0 := cell_of P0.out 0 (.slice ha hn hc) rfl
  have c1 := cell_of P0.out 1 (.slice ea en ec) rfl
  go_wp2_with fail
  refine (rin_any z 0 (hn - 1) _).mono ?_
  rintro e w' ⟨rfl, rfl⟩
  by_cases hz : 0 ≤ z ∧ z < hn
  · obtain ⟨k, rfl⟩ : ∃ k : Nat, z = k := ⟨z.toNat, by omega⟩
    have hkn : k < hn := by omega
    obtain ⟨h, Hh⟩ : ∃ h, hs[k]? = some h := ⟨hs[k]'(by rw [LH.out]; exact hkn), List.getElem?_eq_getElem (by rw [LH.out]; exact hkn)⟩
    have HV : Hid (passesV hs es k = (passSum h.nm (es.take 400), 0)) := Lib.hid (by simp [passesV, Hh])
    have hin : inB (k : Int) 0 ((hn : Int) - 1) = true := inB_true.2 (by omega)
    rw [hin]
    clear hin
    obtain ⟨hb, ho, rfl, hat⟩ := R1.out.at (by omega)
    have HHA := Lib.hid (hat k h Hh)
    clear hat Hh
    obtain ⟨oh, hoh⟩ : ∃ oh, Hid (ho + k * 21 = oh) := ⟨_, Lib.hid rfl⟩
    rw [hoh.out] at HHA
    have HIX := Lib.hid (fun W => idx_off (W := W) (c := hc) (b := hb) Tryz.underlying24 J21 hkn hoh.out)
    obtain ⟨M, hM⟩ : ∃ M, Hid (min en 400 = M) := ⟨_, Lib.hid rfl⟩
    have HME : Hid (M ≤ en) := Lib.hid (by rw [← hM.out]; omega)
    have ET : Hid (es.take 400 = es.take M) := Lib.hid (by
      rw [← hM.out]; have := LE.out
      rcases Nat.le_total en 400 with h | h
      · rw [Nat.min_eq_left h, List.take_of_length_le (by omega), List.take_of_length_le (by omega)]
      · rw [Nat.min_eq_right h])
    rw [ET.out] at HV
    obtain ⟨all, hall⟩ : ∃ all, Hid (es.take M = all) := ⟨_, Lib.hid rfl⟩
    have HAL : Hid (all.length = M) := Lib.hid (by rw [← hall.out, List.length_take]; have := LE.out; have := HME.out; omega)
    have HM4 : Hid (M ≤ 400) := Lib.hid (by rw [← hM.out]; omega)
    rw [hall.out] at HV
    clear hz
    go_wp2_with fail
    clear c0 c1
    have GB : Hid (∀ q x, all[q]? = some x → ∀ r, (if passOne h.nm x = true then passSum h.nm (all.take q) + x.x.n.turns else passSum h.nm (all.take q)) = r → passSum h.nm (all.take (q + 1)) = r) := Lib.hid (fun q x hx r hr => by rw [take_snoc hx, passSum_snoc]; exact hr)
    go_loopw [6, 7] (fun s i wr => ∃ q : Nat, i = .int .i64 q ∧ q ≤ M ∧ s = .int .i64 (passSum h.nm (all.take q)) ∧ Hid (Below W1.heap.size W1 wr)) (fun _ i _ => M - (intOf i).toNat)
    case atStart => exact ⟨0, rfl, Nat.zero_le _, rfl, Lib.hid (Below.refl _ _)⟩
    case round =>
      obtain ⟨q, rfl, hq, rfl, HS⟩ := hrel
      have P6 := Lib.hid (below_blk HS.out P0.out)
      have H6 := Lib.hid (rangeAt_below HHA.out HS.out)
      have c1 := cell_of P6.out 1 (.slice ea en ec) rfl
      obtain ⟨z, hz⟩ : ∃ z, Hid (passSum h.nm (all.take q) = z) := ⟨_, Lib.hid rfl⟩
      have HZ : Hid (0 ≤ z ∧ z ≤ 4000000) := Lib.hid (by
        rw [← hz.out]
        have h1 := passSum_bnd h.nm (all.take q)
        have h2 : (all.take q).length ≤ 400 := by rw [List.length_take]; have := HM4.out; have := HAL.out; omega
        omega)
      rw [hz.out]
      by_cases hlt : q < M
      · have t0 : decide ((q : Int) < (en : Int)) = true := by have := HME.out; simp; omega
        have t4 : decide ((q : Int) < 400) = true := by have := HM4.out; simp; omega
        obtain ⟨x, Hx⟩ : ∃ x, all[q]? = some x := ⟨all[q]'(by rw [HAL.out]; exact hlt), List.getElem?_eq_getElem (by rw [HAL.out]; exact hlt)⟩
        have GBX := Lib.hid (GB.out q x Hx)
        rw [hz.out] at GBX
        obtain ⟨bs, off, ha0, hat⟩ := (RdEs.of_rd (R2.out.below HS.out)).at (by have := HME.out; omega)
        subst ha0
        have hqe : q < en := by have := HME.out; omega
        have HRA := Lib.hid (hat q x (by rw [← Hx, ← hall.out, List.getElem?_take_of_lt hlt]))
        clear hat Hx
        obtain ⟨o, hoo⟩ : ∃ o, Hid (off + q * 21 = o) := ⟨_, Lib.hid rfl⟩
        rw [hoo.out] at HRA
        have hix := fun W => idx_off (W := W) (c := ec) (b := bs) Tryz.underlying24 J21 hqe hoo.out
        have hRN : Hid (wr.rangeAt bs (o + 2) (x.x.n.cells x.x.sa x.x.sc)) := Lib.hid (fun j v hv => by
          have := HRA.out (2 + j) v (by rw [EvV.cells, List.getElem?_append_right (by simp)]; simpa using hv)
          rwa [← Nat.add_assoc] at this)
        go_upto_region 8 with (first
          | (refine wpList_load_mid rfl 51 _ rfl bs (o + 2) rfl (x.x.n.cells x.x.sa x.x.sc) _ hRN.out Tryz.underlying51 rfl (size43 x.x.n x.x.sa x.x.sc) ?_)
          | (refine wpList_store_newp _ rfl 51 _ _ rfl _ rfl _ (noteA x.x.n x.x.sa x.x.sc) rfl rfl (I43.out _ _ _) rfl (noteA_one _ _ _) ?_)
          | fail)
        clear hix t0 t4 c1
        try simp only [Act.put, List.setIfInBounds_toArray, List.set_cons_zero, List.set_cons_succ]
        have hbt : Below wr.heap.size wr (wr.alloc (.cells (noteA x.x.n x.x.sa x.x.sc) 51)) := (Below.refl _ _).alloc (Nat.le_refl _) _
        have XT := Lib.hid (heap_last wr (.cells (noteA x.x.n x.x.sa x.x.sc) 51))
        have S7 := Lib.hid (HS.out.trans (hbt.mono HS.out.size))
        have P7 := Lib.hid (below_blk hbt P6.out)
        have H7 := Lib.hid (rangeAt_below H6.out hbt)
        clear hbt P6 H6 HS HRA hRN
        obtain ⟨p8, hp8⟩ : ∃ p8, Hid (wr.heap.size = p8) := ⟨_, Lib.hid rfl⟩
        rw [hp8.out] at XT ⊢
        generalize wr.alloc (.cells (noteA x.x.n x.x.sa x.x.sc) 51) = wt at *
        have hq64 : (q : Int) + 1 ≤ 9223372036854775807 := by have := HM4.out; omega
        have hC0 : Below wt.heap.size wt wt.drew := (Below.refl _ _).drew
        have LX := Lib.hid (show ∀ w0, Below wt.heap.size wt w0 → w0.heap[p8]? = some (.cells (noteA x.x.n x.x.sa x.x.sc) 51 (0, 0)) from fun w0 h => below_blk h XT.out)
        have LR := Lib.hid (show ∀ w0, Below wt.heap.size wt w0 → w0.heap[pR]? = some (.cells #[.slice (some ⟨hb, ho, none⟩) hn hc, .slice (some ⟨bs, off, none⟩) en ec, v3] 27 (0, 0)) from fun w0 h => below_blk h P7.out)
        have LB := Lib.hid (show ∀ w0, Below wt.heap.size wt w0 → w0.rangeAt hb oh h.cells from fun w0 hw => rangeAt_below H7.out hw)
        refine wp_region_quiet (C := fun w' : World => Below wt.heap.size wt w') (by kernel_rfl) (by kernel_rfl) hC0 ?_
        show wpQuiet _ _ _ _ (_ :: _) _
        go_big_quiet_want
        refine ⟨.pointer (some ⟨p8, 4, none⟩), fun w0 hC => ?_, ?_⟩
        · clear hC
          go_simp
        simp only [Act.put, List.setIfInBounds_toArray, List.set_cons_zero, List.set_cons_succ]
        go_big_quiet_on
        go_big_quiet_want
        refine ⟨.int .i64 x.x.n.kind, fun w0 hC => ?_, ?_⟩
        · have c4 := cell_of (LX.out w0 hC) 4 (.int .i64 x.x.n.kind) rfl
          clear hC
          go_simp
        simp only [Act.put, List.setIfInBounds_toArray, List.set_cons_zero, List.set_cons_succ]
        go_big_quiet_on
        go_big_quiet_want
        refine ⟨.bool (x.x.n.kind == 2), fun w0 hC => ?_, ?_⟩
        · clear hC
          go_simp
        simp only [Act.put, List.setIfInBounds_toArray, List.set_cons_zero, List.set_cons_succ]
        go_big_quiet_on
        cases hk : (x.x.n.kind == 2)
        · have GR := Lib.hid (GBX.out z (by simp [passOne, hk]))
          go_big_quiet_want
          go_big_quiet_op
          go_big_quiet_on
          go_big_quiet_skip
          go_big_quiet_skip
          go_big_quiet_skip
          go_big_quiet_skip
          go_big_quiet_skip
          go_big_quiet_skip
          go_big_quiet_skip
          go_big_quiet_skip
          go_big_quiet_skip
          go_big_quiet_want
          refine ⟨.bool false, fun w0 hC => ?_, ?_⟩
          · clear hC
            go_simp
          simp only [Act.put, List.setIfInBounds_toArray, List.set_cons_zero, List.set_cons_succ]
          go_big_quiet_on
          go_big_quiet_want
          go_big_quiet_op
          go_big_quiet_on
          go_big_quiet_skip
          go_big_quiet_skip
          go_big_quiet_skip
          go_big_quiet_want
          refine ⟨.bool false, fun w0 hC => ?_, ?_⟩
          · clear hC
            go_simp
          simp only [Act.put, List.setIfInBounds_toArray, List.set_cons_zero, List.set_cons_succ]
          go_big_quiet_on
          refine wpQuiet_nil ?_
          intro w' hC
          have S8 := Lib.hid (S7.out.trans (hC.mono S7.out.size))
          clear hC
          go_wp2_with fail
          go_roundw
          case rel => exact ⟨q + 1, by go_num, by omega, by rw [GR.out], S8⟩
          case measure => simp [intOf]; omega
        · have HK := Lib.hid hk; clear hk
          go_big_quiet_want
          go_big_quiet_op
          go_big_quiet_on
          go_big_quiet_want
          refine ⟨.pointer (some ⟨p8, 16, none⟩), fun w0 hC => ?_, ?_⟩
          · clear hC
            go_simp
          simp only [Act.put, List.setIfInBounds_toArray, List.set_cons_zero, List.set_cons_succ]
          go_big_quiet_on
          go_big_quiet_want
          refine ⟨.agg #[.int .i64 x.x.n.refH, .int .i64 x.x.n.refN], fun w0 hC => ?_, ?_⟩
          · have c16 := cell_of (LX.out w0 hC) 16 (.int .i64 x.x.n.refH) rfl
            have c17 := cell_of (LX.out w0 hC) 17 (.int .i64 x.x.n.refN) rfl
            clear hC
            go_simp
          simp only [Act.put, List.setIfInBounds_toArray, List.set_cons_zero, List.set_cons_succ]
          go_big_quiet_on
          go_big_quiet_want
          refine ⟨.pointer (some ⟨pR, 0, none⟩), fun w0 hC => ?_, ?_⟩
          · clear hC
            go_simp
          simp only [Act.put, List.setIfInBounds_toArray, List.set_cons_zero, List.set_cons_succ]
          go_big_quiet_on
          go_big_quiet_want
          refine ⟨.slice (some ⟨hb, ho, none⟩) hn hc, fun w0 hC => ?_, ?_⟩
          · have c0 := cell_of (LR.out w0 hC) 0 (.slice (some ⟨hb, ho, none⟩) hn hc) rfl
            clear hC
            go_simp
          simp only [Act.put, List.setIfInBounds_toArray, List.set_cons_zero, List.set_cons_succ]
          go_big_quiet_on
          go_big_quiet_want
          go_big_quiet_op
          go_big_quiet_on
          go_big_quiet_want
          refine ⟨.pointer (some ⟨hb, oh, none⟩), fun w0 hC => ?_, ?_⟩
          · have hix := HIX.out w0
            clear hC
            go_simp
          simp only [Act.put, List.setIfInBounds_toArray, List.set_cons_zero, List.set_cons_succ]
          go_big_quiet_on
          go_big_quiet_want
          refine ⟨.pointer (some ⟨hb, oh, none⟩), fun w0 hC => ?_, ?_⟩
          · clear hC
            go_simp
          simp only [Act.put, List.setIfInBounds_toArray, List.set_cons_zero, List.set_cons_succ]
          go_big_quiet_on
          go_big_quiet_want
          refine ⟨.agg #[.int .i64 h.nm.1, .int .i64 h.nm.2], fun w0 hC => ?_, ?_⟩
          · have c0 := LB.out w0 hC 0 (.int .i64 h.nm.1) rfl
            have c1 := LB.out w0 hC 1 (.int .i64 h.nm.2) rfl
            simp only [Nat.add_zero] at c0
            clear hC
            go_simp
          simp only [Act.put, List.setIfInBounds_toArray, List.set_cons_zero, List.set_cons_succ]
          go_big_quiet_on
          go_big_quiet_want
          refine ⟨.bool (decide (x.x.n.refH = h.nm.1 ∧ x.x.n.refN = h.nm.2)), fun w0 hC => ?_, ?_⟩
          · clear hC
            go_simp
            try (by_cases h1 : x.x.n.refH = h.nm.1 <;> by_cases h2 : x.x.n.refN = h.nm.2 <;> simp [h1, h2])
          simp only [Act.put, List.setIfInBounds_toArray, List.set_cons_zero, List.set_cons_succ]
          go_big_quiet_on
          cases hr : decide (x.x.n.refH = h.nm.1 ∧ x.x.n.refN = h.nm.2)
          · have GR := Lib.hid (GBX.out z (by
              have h1 : ¬ (x.x.n.refH, x.x.n.refN) = h.nm := fun e => of_decide_eq_false hr ⟨congrArg Prod.fst e, congrArg Prod.snd e⟩
              simp [passOne, h1]))
            go_big_quiet_want
            refine ⟨.bool false, fun w0 hC => ?_, ?_⟩
            · clear hC
              go_simp
            simp only [Act.put, List.setIfInBounds_toArray, List.set_cons_zero, List.set_cons_succ]
            go_big_quiet_on
            go_big_quiet_want
            go_big_quiet_op
            go_big_quiet_on
            go_big_quiet_skip
            go_big_quiet_skip
            go_big_quiet_skip
            go_big_quiet_want
            refine ⟨.bool false, fun w0 hC => ?_, ?_⟩
            · clear hC
              go_simp
            simp only [Act.put, List.setIfInBounds_toArray, List.set_cons_zero, List.set_cons_succ]
            go_big_quiet_on
            refine wpQuiet_nil ?_
            intro w' hC
            have S8 := Lib.hid (S7.out.trans (hC.mono S7.out.size))
            clear hC
            go_wp2_with fail
            go_roundw
            case rel => exact ⟨q + 1, by go_num, by omega, by rw [GR.out], S8⟩
            case measure => simp [intOf]; omega
          · have HR : Hid ((x.x.n.refH, x.x.n.refN) = h.nm) := Lib.hid (Prod.ext (of_decide_eq_true hr).1 (of_decide_eq_true hr).2)
            clear hr
            go_big_quiet_want
            refine ⟨.bool true, fun w0 hC => ?_, ?_⟩
            · clear hC
              go_simp
            simp only [Act.put, List.setIfInBounds_toArray, List.set_cons_zero, List.set_cons_succ]
            go_big_quiet_on
            go_big_quiet_want
            go_big_quiet_op
            go_big_quiet_on
            go_big_quiet_want
            refine ⟨.pointer (some ⟨p8, 7, none⟩), fun w0 hC => ?_, ?_⟩
            · clear hC
              go_simp
            simp only [Act.put, List.setIfInBounds_toArray, List.set_cons_zero, List.set_cons_succ]
            go_big_quiet_on
            go_big_quiet_want
            refine ⟨.int .i64 x.x.n.turns, fun w0 hC => ?_, ?_⟩
            · have c7 := cell_of (LX.out w0 hC) 7 (.int .i64 x.x.n.turns) rfl
              clear hC
              go_simp
            simp only [Act.put, List.setIfInBounds_toArray, List.set_cons_zero, List.set_cons_succ]
            go_big_quiet_on
            go_big_quiet_want
            refine ⟨.bool (inB x.x.n.turns 1 10000), fun w0 hC => ?_, ?_⟩
            · go_simp
              refine (rin_any x.x.n.turns 1 10000 w0).mono ?_
              rintro e w1 ⟨rfl, rfl⟩
              exact ⟨rfl, hC⟩
            simp only [Act.put, List.setIfInBounds_toArray, List.set_cons_zero, List.set_cons_succ]
            go_big_quiet_on
            cases hi : inB x.x.n.turns 1 10000
            · have GR := Lib.hid (GBX.out z (by simp [passOne, hi]))
              go_big_quiet_want
              refine ⟨.bool false, fun w0 hC => ?_, ?_⟩
              · clear hC
                go_simp
              simp only [Act.put, List.setIfInBounds_toArray, List.set_cons_zero, List.set_cons_succ]
              go_big_quiet_on
              refine wpQuiet_nil ?_
              intro w' hC
              have S8 := Lib.hid (S7.out.trans (hC.mono S7.out.size))
              clear hC
              go_wp2_with fail
              go_roundw
              case rel => exact ⟨q + 1, by go_num, by omega, by rw [GR.out], S8⟩
              case measure => simp [intOf]; omega
            · have GR := Lib.hid (GBX.out (z + x.x.n.turns) (by simp [passOne, hi, HK.out, HR.out]))
              have HT := Lib.hid (inB_true.1 hi)
              clear hi
              go_big_quiet_want
              refine ⟨.bool true, fun w0 hC => ?_, ?_⟩
              · clear hC
                go_simp
              simp only [Act.put, List.setIfInBounds_toArray, List.set_cons_zero, List.set_cons_succ]
              go_big_quiet_on
              refine wpQuiet_nil ?_
              intro w' hC
              have S8 := Lib.hid (S7.out.trans (hC.mono S7.out.size))
              have hc9 := cell_of (LX.out w' hC) 7 (.int .i64 x.x.n.turns) rfl
              have hzb := HZ.out
              have htb := HT.out
              clear hC
              go_wp2_with fail
              go_roundw
              case rel => exact ⟨q + 1, by go_num, by omega, by rw [GR.out], S8⟩
              case measure => simp [intOf]; omega
      · have hqm : q = M := by omega
        subst hqm
        have HE : Hid (passSum h.nm all = z) := Lib.hid (by rw [← hz.out, List.take_of_length_le (by rw [HAL.out]; exact Nat.le_refl _)])
        have B6 := Lib.hid (B0.out.trans (HS.out.mono B0.out.size))
        by_cases hqe : q < en
        · have t0 : decide ((q : Int) < (en : Int)) = true := by simp; omega
          have t4 : decide ((q : Int) < 400) = false := by have := hM.out; simp; omega
          go_wp2_with fail
          go_ret2
          exact ⟨by rw [HV.out, HE.out]; rfl, B6.out⟩
        · have t0 : decide ((q : Int) < (en : Int)) = false := by simp; omega
          go_wp2_with fail
          go_ret2
          exact ⟨by rw [HV.out, HE.out]; rfl, B6.out⟩
  · have HV : Hid (passesV hs es z = (0, 3)) := Lib.hid (by
      unfold passesV
      by_cases h0 : 0 ≤ z
      · rw [if_pos h0]
        have : hs[z.toNat]? = none := List.getElem?_eq_none (by rw [LH.out]; omega)
        rw [this]
      · rw [if_neg h0])
    have hin : inB z 0 ((hn : Int) - 1) = false := inB_false.2 (by omega)
    rw [hin]
    clear hin hz
    go_wp2_with fail
    go_ret2
    exact ⟨by rw [HV.out]; rfl, B0.out⟩
end Go.Proofs.YtpjiakgfegnmcaaGreat
namespace Go.Proofs.YtpjiakgfegnmcaaGreat
set_option linter.unusedSimpArgs false
open Go.RowKit

set_option maxHeartbeats 8000000 in
set_option maxRecDepth 100000 in
theorem covered_any (r s : Int) (wd : Nat) (b off N c : Nat) (T l : List Int) (sa : Option Addr) (sc : Nat) (B : Int) (w : World) (hT : TAt w b T) (hN : off + N ≤ T.length) (hr : RdI w sa l.length sc l) (hsb : ∀ x o, sa = some ⟨x, o, none⟩ → x ≠ b)
    (hl : ∀ x ∈ l, 0 ≤ x ∧ x + wd ≤ N) (hB : ∀ v ∈ T, 0 ≤ v ∧ v ≤ B) (hBl : B + l.length ≤ 1000000000000) (hNb : N ≤ 1000000) :
    Calls Tryz.prog 53 #[.agg #[.int .i64 r, .int .i64 s, .int .i64 wd], .slice (some ⟨b, off, none⟩) N c, .slice sa l.length sc] w fun e w' => e = .returned (.tuple #[]) ∧ TAt w' b (coverL off wd T l) ∧ Same (fun k => k = b) w w' := by
  have hb0 : Below w.heap.size w (w.alloc (.cells #[.int .i64 r, .int .i64 s, .int .i64 wd] 23)) := (Below.refl _ _).alloc (Nat.le_refl _) _
  have hF := heap_last w (.cells #[.int .i64 r, .int .i64 s, .int .i64 wd] 23)
  have T0 : Hid (TAt (w.alloc (.cells #[.int .i64 r, .int .i64 s, .int .i64 wd] 23)) b T) := Lib.hid (below_blk hb0 hT)
  have R0 := Lib.hid (hr.below hb0)
  have S0 := Lib.hid (Same.of_below (S := fun k => k = b) hb0)
  have FN : Hid (w.heap.size ≠ b) := Lib.hid (by have := blk_lt hT; omega)
  have HN := Lib.hid hN; have HSB := Lib.hid hsb; have HL := Lib.hid hl; have HB := Lib.hid hB; have HBL := Lib.hid hBl; have HNB := Lib.hid hNb
  have hm := hr.maxn
  clear hT hr hN hsb hl hB hBl hNb hb0
  go_enter Tryz.func53, Tryz.ntmps53
  go_upto_region 1 with fail
  have F0 := Lib.hid hF; clear hF
  obtain ⟨p, hp⟩ : ∃ p, Hid (w.heap.size = p) := ⟨_, Lib.hid rfl⟩
  rw [hp.out] at F0 FN ⊢
  generalize w.alloc (.cells #[.int .i64 r, .int .i64 s, .int .i64 wd] 23) = W1 at *
  have FS : Hid (∀ wr, Same (fun k => k = b) W1 wr → wr.heap[p]? = some (.cells #[.int .i64 r, .int .i64 s, .int .i64 wd] 23 (0, 0))) := Lib.hid (fun wr h => (h.block p (blk_lt F0.out) FN.out).trans F0.out)
  have RS : Hid (∀ wr, Same (fun k => k = b) W1 wr → RdI wr sa l.length sc l) := Lib.hid (fun wr h => R0.out.ne h (fun x o e => HSB.out x o e))
  go_wp2_with fail
  go_loopw [6, 7] (fun i _ wr => ∃ k : Nat, i = .int .i64 k ∧ k ≤ l.length ∧ Hid (TAt wr b (coverL off wd T (l.take k))) ∧ Hid (Same (fun k => k = b) W1 wr)) (fun i _ _ => l.length - (intOf i).toNat)
  case atStart => exact ⟨0, rfl, Nat.zero_le _, Lib.hid (by simpa [coverL] using T0.out), Lib.hid (Same.refl _ _)⟩
  case round =>
    obtain ⟨k, rfl, hk, HT, HS⟩ := hrel
    by_cases hlt : k < l.length
    · have t0 : decide ((k : Int) < (l.length : Int)) = true := by simp; omega
      obtain ⟨x, Hx⟩ : ∃ x, l[k]? = some x := ⟨l[k], List.getElem?_eq_getElem hlt⟩
      have HX := Lib.hid Hx
      obtain ⟨bs, so, ha0, hat⟩ := (RS.out wr HS.out).at (by omega)
      have hxl := HL.out x (List.mem_of_getElem? Hx)
      obtain ⟨j0, hj0⟩ : ∃ j0 : Nat, x = j0 := ⟨x.toNat, by omega⟩
      subst hj0
      have XS : Hid (∀ wz, Same (fun k => k = b) W1 wz → wz.cell? ⟨bs, so + k, none⟩ = some (.int .i64 (j0 : Int))) := Lib.hid (fun wz h => by
        obtain ⟨bs', so', e', hat'⟩ := (RS.out wz h).at (by omega)
        rw [ha0] at e'
        cases e'
        have := hat' k hlt
        rwa [Hx, Option.getD_some] at this)
      clear hat Hx
      have hxN : j0 + wd ≤ N := by omega
      have TK : Hid (∀ v ∈ coverL off wd T (l.take k), 0 ≤ v ∧ v ≤ 1000000000000 - 1) := Lib.hid (fun v hv => by have := coverL_bnd off wd (l.take k) T B HB.out v hv; rw [List.length_take] at this; have := HBL.out; omega)
      have TL : Hid ((coverL off wd T (l.take k)).length = T.length) := Lib.hid (coverL_len _ _ _ _)
      have HSN : Hid (coverL off wd T (l.take (k + 1)) = addTo (coverL off wd T (l.take k)) (off + j0) (off + j0 + wd)) := Lib.hid (by rw [take_snoc HX.out, coverL_snoc]; rfl)
      obtain ⟨U, hU⟩ : ∃ U, Hid (coverL off wd T (l.take k) = U) := ⟨_, Lib.hid rfl⟩
      rw [hU.out] at TK TL HT HSN
      rw [ha0]
      clear hxl
      have HNx := Lib.hid hxN
      have hNb := HNB.out
      go_upto_region 4 with fail
      clear t0
      go_wp2_with fail
      go_loopw [7] (fun i wr => ∃ j : Nat, i = .int .i64 j ∧ j ≤ wd ∧ Hid (TAt wr b (addTo U (off + j0) (off + j0 + j))) ∧ Hid (Same (fun k => k = b) W1 wr)) (fun i _ => wd - (intOf i).toNat)
      case atStart => exact ⟨0, rfl, by omega, Lib.hid (by rw [Nat.add_zero, addTo_none]; exact HT.out), HS⟩
      case round =>
        obtain ⟨j, rfl, hj2, HTj, HSj⟩ := hrel
        have F2 := cell_of (FS.out _ HSj.out) 2 (.int .i64 wd) rfl
        by_cases hj : j < wd
        · have t1 : decide ((j : Int) < (wd : Int)) = true := by simp; omega
          obtain ⟨v, hv⟩ : ∃ v, U[off + j0 + j]? = some v := ⟨U[off + j0 + j]'(by rw [TL.out]; have := HN.out; omega), List.getElem?_eq_getElem (by rw [TL.out]; have := HN.out; omega)⟩
          have hvb := TK.out v (List.mem_of_getElem? hv)
          have hva : (addTo U (off + j0) (off + j0 + j))[off + j0 + j]? = some v := by
            rw [addTo_at, hv]; simp
          have hc := HTj.out.at hva
          have hfz := HTj.out.free (off + j0 + j)
          have TN : Hid (TAt (wr.setCell ⟨b, off + j0 + j, none⟩ (.int .i64 (v + 1))) b (addTo U (off + j0) (off + j0 + (j + 1)))) := Lib.hid (by
            have := HTj.out.set (off + j0 + j) (v + 1)
            rwa [addTo_step U (off + j0) (off + j0 + j) (by omega) v hv] at this)
          have SN := Lib.hid (HSj.out.trans (same_set1 wr b (off + j0 + j) (.int .i64 (v + 1))))
          have hx1 := XS.out wr HSj.out
          have hjN : j0 + j < N := by omega
          have hs1 : (j0 : Int) + (j : Int) ≤ 9223372036854775807 := by omega
          have hix : ∀ W : World, (Instr.indexAt 38 (.slice (some ⟨b, off, none⟩) N c) (.int .i64 ((j0 : Int) + (j : Int)))).run Tryz.prog W = .ok (.pointer (some ⟨b, off + j0 + j, none⟩)) W := fun W => by
            have := idx_off (W := W) (c := c) (b := b) (off := off) (o := off + j0 + j) (k := 1) Tryz.underlying38 (by kernel_rfl) hjN (by omega)
            rwa [show (((j0 + j : Nat)) : Int) = (j0 : Int) + (j : Int) by omega] at this
          clear hv hva hj2
          go_wp2_with fail
          go_roundw
          case rel => exact ⟨j + 1, by go_num, by omega, TN, SN⟩
          case measure => simp [intOf]; omega
        · have hje : j = wd := by omega
          subst hje
          have t1 : decide ((j : Int) < (j : Int)) = false := by simp
          have TN : Hid (TAt wr b (coverL off j T (l.take (k + 1)))) := Lib.hid (by rw [HSN.out]; exact HTj.out)
          go_wp2_with fail
          go_roundw
          case rel => exact ⟨k + 1, by go_num, by omega, TN, HSj⟩
          case measure => simp [intOf]; omega
    · have hkn : k = l.length := by omega
      have TN : Hid (TAt wr b (coverL off wd T l)) := Lib.hid (by have := HT.out; rwa [hkn, List.take_length] at this)
      have SN := Lib.hid (S0.out.trans HS.out)
      have t0 : decide ((k : Int) < (l.length : Int)) = false := by simp; omega
      go_wp2_with fail
      go_end0
      exact ⟨rfl, TN.out, SN.out⟩
end Go.Proofs.YtpjiakgfegnmcaaGreat
namespace Go.Proofs.YtpjiakgfegnmcaaGreat
set_option linter.unusedSimpArgs false
open Go.RowKit

set_option maxHeartbeats 4000000 in
set_option maxRecDepth 100000 in
theorem rheap_any (hs : List EvV) (a : Option Addr) (n c : Nat) (h m : Int) (w : World) (hr : RdEs w a n c hs) :
    Calls Tryz.prog 47 #[.slice a n c, .agg #[.int .i64 h, .int .i64 m]] w fun e w' => e = .returned (.int .i64 (idxI hs (isNm h m))) ∧ Below w.heap.size w w' := by
  have I21 : (Tryz.prog.info? 53).map (·.size) = some 21 := by kernel_rfl
  have hn63 := hr.maxn
  have HN := Lib.hid hr.1
  have B0 := Lib.hid ((Below.refl w.heap.size w).alloc (Nat.le_refl _) (.cells #[.int .i64 h, .int .i64 m] 29))
  have N0 := Lib.hid (heap_last w (.cells #[.int .i64 h, .int .i64 m] 29))
  have RE := Lib.hid (hr.below B0.out)
  clear hr
  have QA : Hid (∀ (k : Nat) x, hs[k]? = some x → isNm h m x = true → (∀ j y, j < k → hs[j]? = some y → isNm h m y = false) → idxI hs (isNm h m) = k) := Lib.hid (fun k x hx hp hb => idxI_at hx hp hb)
  have QN : Hid ((∀ j y, j < n → hs[j]? = some y → isNm h m y = false) → idxI hs (isNm h m) = -1) := Lib.hid (fun hb => idxI_none (fun j y hj hy => hb j y (by rw [← HN.out]; exact hj) hy))
  generalize idxI hs (isNm h m) = q at *
  go_enter Tryz.func47, Tryz.ntmps47
  go_upto_region 1 with fail
  obtain ⟨p, hp⟩ : ∃ p, Hid (w.heap.size = p) := ⟨_, Lib.hid rfl⟩
  rw [hp.out] at N0 ⊢
  generalize w.alloc (.cells #[.int .i64 h, .int .i64 m] 29) = W0 at *
  have n0 := cell_of N0.out 0 (.int .i64 h) rfl
  have n1 := cell_of N0.out 1 (.int .i64 m) rfl
  go_wp2_with fail
  go_loopw [5] (fun i wr => ∃ k : Nat, i = .int .i64 k ∧ k ≤ n ∧ Hid (∀ j y, j < k → hs[j]? = some y → isNm h m y = false) ∧ ∃ q, wr = W0.drewN q) (fun i _ => n - (intOf i).toNat)
  case atStart => exact ⟨0, rfl, Nat.zero_le _, Lib.hid (fun j y h => by omega), 0, rfl⟩
  case round =>
    obtain ⟨k, rfl, hk, HB, q', rfl⟩ := hrel
    by_cases hkn : k < n
    · have t0 : decide ((k : Int) < (n : Int)) = true := by simp; omega
      obtain ⟨b, off, rfl, hat⟩ := RE.out.at (show 0 < n by omega)
      obtain ⟨x, Hx⟩ : ∃ x, hs[k]? = some x := ⟨hs[k]'(by rw [HN.out]; exact hkn), List.getElem?_eq_getElem (by rw [HN.out]; exact hkn)⟩
      have hra := hat k x Hx
      obtain ⟨o, ho⟩ : ∃ o, Hid (off + k * 21 = o) := ⟨_, Lib.hid rfl⟩
      rw [ho.out] at hra
      have x0 := hra 0 (.int .i64 x.nm.1) rfl
      have x1 := hra 1 (.int .i64 x.nm.2) rfl
      rw [Nat.add_zero] at x0
      have hi := fun W => idx_off (W := W) (c := c) (b := b) Tryz.underlying24 I21 hkn ho.out
      have hk64 : (k : Int) + 1 ≤ 9223372036854775807 := by omega
      have HX := Lib.hid Hx
      clear hat Hx hra
      cases hp1 : isNm h m x with
      | true =>
        have hp2 := of_decide_eq_true hp1
        have HQ := Lib.hid (QA.out k x HX.out hp1 HB.out)
        rw [hp2.1] at x0; rw [hp2.2] at x1
        clear hp1 hp2
        go_wp2
        go_quiet (fail)
        go_wp2
        go_ret
        exact ⟨by rw [HQ.out]; rfl, below_drewN (below_drewN B0.out _) _⟩
      | false =>
        have hp2 := of_decide_eq_false hp1
        have HP := Lib.hid hp1
        clear hp1
        by_cases e1 : x.nm.1 = h
        · have e2 : (x.nm.2 == m) = false := by rw [beq_eq_false_iff_ne]; exact fun h' => hp2 ⟨e1, h'⟩
          rw [e1] at x0
          clear hp2 e1
          go_wp2
          go_quiet (fail)
          go_wp2
          go_roundw
          case rel => exact ⟨k + 1, by go_num, by omega, Lib.hid (fun j y hj hy => by
            rcases Nat.lt_or_ge j k with h' | h'
            · exact HB.out j y h' hy
            · have e : j = k := by omega
              subst e
              rw [HX.out] at hy
              cases hy
              exact HP.out), _, rfl⟩
          case measure => simp [intOf]; omega
        · have e2 : (x.nm.1 == h) = false := by rw [beq_eq_false_iff_ne]; exact e1
          clear hp2 e1
          go_wp2
          go_quiet (fail)
          go_wp2
          go_roundw
          case rel => exact ⟨k + 1, by go_num, by omega, Lib.hid (fun j y hj hy => by
            rcases Nat.lt_or_ge j k with h' | h'
            · exact HB.out j y h' hy
            · have e : j = k := by omega
              subst e
              rw [HX.out] at hy
              cases hy
              exact HP.out), _, rfl⟩
          case measure => simp [intOf]; omega
    · have t0 : decide ((k : Int) < (n : Int)) = false := by simp; omega
      have HQ := Lib.hid (QN.out (fun j y hj hy => HB.out j y (by omega) hy))
      go_wp2
      go_ret
      exact ⟨by rw [HQ.out]; rfl, below_drewN B0.out _⟩
set_option maxHeartbeats 4000000 in
set_option maxRecDepth 100000 in
theorem rheapOf_any (hs : List EvV) (ha : Option Addr) (hn hc : Nat) (v1 v2 : Value) (h m : Int) (w : World) (hr : RdEs w ha hn hc hs) :
    Calls Tryz.prog 13 #[.agg #[.slice ha hn hc, v1, v2], .agg #[.int .i64 h, .int .i64 m]] w fun r w' => r = .returned (.tuple (heapOfV hs h m)) ∧ Below w.heap.size w w' := by
  have B := Lib.hid (((Below.refl w.heap.size w).alloc (Nat.le_refl _) (.cells #[.slice ha hn hc, v1, v2] 27)).alloc (by simp) (.cells #[.int .i64 h, .int .i64 m] 29))
  have g0 := Lib.hid (heap_before _ (.cells #[.int .i64 h, .int .i64 m] 29) _ _ (heap_last w (.cells #[.slice ha hn hc, v1, v2] 27)))
  have g1 := Lib.hid (heap_at (w.alloc (.cells #[.slice ha hn hc, v1, v2] 27)) (.cells #[.int .i64 h, .int .i64 m] 29) (w.heap.size + 1) (by simp))
  have RE := Lib.hid (hr.below B.out)
  clear hr
  go_enter Tryz.func13, Tryz.ntmps13
  go_upto_region 1 with fail
  obtain ⟨p0, hp0⟩ : ∃ p0, Hid (w.heap.size = p0) := ⟨_, Lib.hid rfl⟩
  obtain ⟨p1, hp1⟩ : ∃ p1, Hid (p0 + 1 = p1) := ⟨_, Lib.hid rfl⟩
  rw [hp0.out] at g0 g1 ⊢
  rw [hp1.out] at g1 ⊢
  generalize (w.alloc (.cells #[.slice ha hn hc, v1, v2] 27)).alloc (.cells #[.int .i64 h, .int .i64 m] 29) = W0 at *
  have c0 := cell_of g0.out 0 (.slice ha hn hc) rfl
  have d0 := cell_of g1.out 0 (.int .i64 h) rfl
  have d1 := cell_of g1.out 1 (.int .i64 m) rfl
  obtain ⟨k, hk⟩ : ∃ k, Hid (idxI hs (isNm h m) = k) := ⟨_, Lib.hid rfl⟩
  have HV := Lib.hid (show heapOfV hs h m = if k < 0 then #[.int .i64 0, .int .i64 3] else #[.int .i64 k, .int .i64 0] by unfold heapOfV; rw [hk.out])
  have CA := Lib.hid (rheap_any hs ha hn hc h m W0 RE.out)
  rw [hk.out] at CA
  go_wp2_with fail
  refine CA.out.mono ?_
  rintro e W1 ⟨rfl, b1⟩
  have B1 := Lib.hid (B.out.trans (b1.mono B.out.size))
  clear b1 c0 d0 d1
  by_cases hlt : k < 0
  · have t0 : decide (k < 0) = true := by simp [hlt]
    rw [if_pos hlt] at HV
    have hkl := Lib.hid hlt; clear hlt
    go_wp2_with fail
    go_ret2
    exact ⟨by rw [HV.out]; rfl, B1.out⟩
  · have t0 : decide (k < 0) = false := by simp; omega
    rw [if_neg hlt] at HV
    have hkl := Lib.hid hlt; clear hlt
    go_wp2_with fail
    go_ret2
    exact ⟨by rw [HV.out]; rfl, B1.out⟩
end Go.Proofs.YtpjiakgfegnmcaaGreat
