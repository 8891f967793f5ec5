/- Parts of the proof, in this order: SameInts, SameNames of the reference; AsOf of the program; Fold of the program, of a small set; What the samples' register is; awake, which stands at the head of the statements about histories: it gives true; few: a set is small, or has too much. -/
import Derived.Test.YtpjiakgfegnmcaaGreatKPhu8
set_option linter.unusedSimpArgs false
set_option linter.unusedVariables false
open List renaming getElem_toArray → lq0, getElem_cons_succ → lq1, getElem_cons_zero → lq2, setIfInBounds_toArray → lq3, set_cons_zero → lq4, set_cons_succ → lq5
namespace Go.Proofs.YtpjiakgfegnmcaaGreat
set_option linter.unusedSimpArgs false
open Go.RowKit

theorem sameInts_any (a : Option Addr) (n c : Nat) (l : List Int) (a' : Option Addr) (n' c' : Nat) (l' : List Int) (w : World) (hr : RdI w a n c l) (hr' : RdI w a' n' c' l') :
    Calls Tryz.prog 18 #[.slice a n c, .slice a' n' c'] w fun e w' => e = .returned (.bool (decide (l = l'))) ∧ ∃ q, w' = w.drewN q := by
  have hm := RdI.maxn hr
  have hl := Lib.hid hr.len
  have hl' := Lib.hid hr'.len
  by_cases hnn : n = n'
  · subst hnn
    have QF : Hid ((∀ j, j < n → l[j]?.getD 0 = l'[j]?.getD 0) → decide (l = l') = true) := Lib.hid (fun h => by rw [decide_eq_true_eq]; exact ilist_ext (by rw [hl.out, hl'.out]) (fun j hj => h j (by rw [hl.out] at hj; omega)))
    have QG : Hid (∀ j : Nat, l[j]?.getD 0 ≠ l'[j]?.getD 0 → decide (l = l') = false) := Lib.hid (fun j h => by rw [decide_eq_false_iff_not]; intro e; rw [e] at h; exact h rfl)
    generalize decide (l = l') = q at *
    go_enter Tryz.func18, Tryz.ntmps18
    go_wp2
    go_loopw [5] (fun i wr => ∃ k : Nat, k ≤ n ∧ i = .int .i64 k ∧ (∀ j, j < k → l[j]?.getD 0 = l'[j]?.getD 0) ∧ ∃ q, wr = w.drewN q) (fun i _ => n - (intOf i).toNat)
    case atStart => exact ⟨0, Nat.zero_le _, rfl, fun j hj => by omega, 0, rfl⟩
    case round =>
      obtain ⟨k, hk, rfl, hrl, q, rfl⟩ := hrel
      have HR := Lib.hid hrl; clear hrl
      by_cases hlt : k < n
      · obtain ⟨b, off, rfl, hc⟩ := hr.at (by omega)
        obtain ⟨b', off', rfl, hc'⟩ := hr'.at (by omega)
        have hx := hc k hlt
        have hx' := hc' k hlt
        clear hc hc' hr hr'
        have hk64 : (k : Int) ≤ 9223372036854775807 := by omega
        by_cases he : l[k]?.getD 0 = l'[k]?.getD 0
        · have hb := int_eq he
          have HE := Lib.hid he; clear he
          go_wp2
          go_quiet (fail)
          go_wp2
          go_roundw
          case rel => exact ⟨k + 1, by omega, by go_num, fun j hj => by
            rcases Nat.lt_succ_iff_lt_or_eq.1 hj with h | h
            · exact HR.out j h
            · rw [h]; exact HE.out, _, rfl⟩
          case measure => simp [intOf]; omega
        · have hb := int_ne he
          have HE := Lib.hid (QG.out k he); clear he
          go_wp2
          go_quiet (fail)
          go_wp2
          go_ret
          exact ⟨by rw [HE.out]; rfl, _, World.drewN_drewN _ _ _⟩
      · have HE := Lib.hid (QF.out (fun j hj => HR.out j (by omega)))
        go_wp2
        go_ret
        exact ⟨by rw [HE.out]; rfl, _, rfl⟩
  · have hb : (((n : Nat) : Int) != ((n' : Nat) : Int)) = true := by rw [bne_iff_ne]; omega
    have hm' := RdI.maxn hr'
    have HE : Hid (decide (l = l') = false) := Lib.hid (by rw [decide_eq_false_iff_not]; intro e; rw [e] at hl; exact hnn (hl.out.symm.trans hl'.out))
    clear hnn
    go_enter Tryz.func18, Tryz.ntmps18
    go_wp2
    go_ret
    exact ⟨by rw [HE.out]; rfl, 0, rfl⟩
theorem rdNm_at {W : World} {a : Option Addr} {n c : Nat} {l : List Nm} (h : RdA W 2 a n c (nmCells l)) (h0 : 0 < n) : ∃ b off, a = some ⟨b, off, none⟩ ∧ ∀ i x, l[i]? = some x → W.cell? ⟨b, off + i * 2, none⟩ = some (.int .i64 x.1) ∧ W.cell? ⟨b, off + i * 2 + 1, none⟩ = some (.int .i64 x.2) := by
  rcases h.2.2.2 with h5 | ⟨b, off, rfl, h4⟩
  · have := h.2.1; omega
  · refine ⟨b, off, rfl, fun i x hx => ?_⟩
    rw [nmCells_eq] at h4
    have hf := fun j hj => flat_at 2 (l.map nmRow) (by intro r hr; obtain ⟨y, _, rfl⟩ := List.mem_map.1 hr; rfl) i (nmRow x) (by rw [List.getElem?_map, hx]; rfl) j hj
    have h6 := h4 (i * 2 + 0) _ ((hf 0 (by omega)).trans rfl)
    have h7 := h4 (i * 2 + 1) _ ((hf 1 (by omega)).trans rfl)
    exact ⟨h6, by rwa [← Nat.add_assoc] at h7⟩
theorem nlist_ext {l m : List Nm} (h : l.length = m.length) (hj : ∀ j, j < l.length → l[j]? = m[j]?) : l = m := by
  apply List.ext_getElem?
  intro j
  rcases Nat.lt_or_ge j l.length with h1 | h1
  · exact hj j h1
  · rw [List.getElem?_eq_none h1, List.getElem?_eq_none (by omega)]
set_option maxHeartbeats 2000000 in
set_option maxRecDepth 100000 in
theorem sameNames_any (a : Option Addr) (n c : Nat) (l : List Nm) (a' : Option Addr) (n' c' : Nat) (l' : List Nm) (w : World) (hr : RdA w 2 a n c (nmCells l)) (hr' : RdA w 2 a' n' c' (nmCells l')) :
    Calls Tryz.prog 37 #[.slice a n c, .slice a' n' c'] w fun e w' => e = .returned (.bool (decide (l = l'))) ∧ ∃ q, w' = w.drewN q := by
  have hm := hr.maxn
  have I2 : (Tryz.prog.info? 29).map (·.size) = some 2 := by kernel_rfl
  have hl := Lib.hid (show l.length = n by have := hr.len; rw [nmCells_len] at this; omega)
  have hl' := Lib.hid (show l'.length = n' by have := hr'.len; rw [nmCells_len] at this; omega)
  by_cases hnn : n = n'
  · subst hnn
    have QF : Hid ((∀ j, j < n → l[j]? = l'[j]?) → decide (l = l') = true) := Lib.hid (fun h => by rw [decide_eq_true_eq]; exact nlist_ext (by rw [hl.out, hl'.out]) (fun j hj => h j (by rw [hl.out] at hj; omega)))
    have QG : Hid (∀ j : Nat, l[j]? ≠ l'[j]? → decide (l = l') = false) := Lib.hid (fun j h => by rw [decide_eq_false_iff_not]; intro e; rw [e] at h; exact h rfl)
    generalize decide (l = l') = q at *
    go_enter Tryz.func37, Tryz.ntmps37
    go_wp2
    go_loopw [5] (fun i wr => ∃ k : Nat, k ≤ n ∧ i = .int .i64 k ∧ (∀ j, j < k → l[j]? = l'[j]?) ∧ ∃ q, wr = w.drewN q) (fun i _ => n - (intOf i).toNat)
    case atStart => exact ⟨0, Nat.zero_le _, rfl, fun j hj => by omega, 0, rfl⟩
    case round =>
      obtain ⟨k, hk, rfl, hrl, q, rfl⟩ := hrel
      have HR := Lib.hid hrl; clear hrl
      by_cases hlt : k < n
      · obtain ⟨b, off, rfl, hc⟩ := rdNm_at hr (by omega)
        obtain ⟨b', off', rfl, hc'⟩ := rdNm_at hr' (by omega)
        obtain ⟨x, Hx⟩ : ∃ x, l[k]? = some x := ⟨l[k]'(by rw [hl.out]; exact hlt), List.getElem?_eq_getElem (by rw [hl.out]; exact hlt)⟩
        obtain ⟨y, Hy⟩ : ∃ y, l'[k]? = some y := ⟨l'[k]'(by rw [hl'.out]; exact hlt), List.getElem?_eq_getElem (by rw [hl'.out]; exact hlt)⟩
        obtain ⟨hx0, hx1⟩ := hc k x Hx
        obtain ⟨hy0, hy1⟩ := hc' k y Hy
        have HX := Lib.hid Hx; have HY := Lib.hid Hy
        clear hc hc' hr hr' Hx Hy
        obtain ⟨o, ho⟩ : ∃ o, Hid (off + k * 2 = o) := ⟨_, Lib.hid rfl⟩
        obtain ⟨o', ho'⟩ : ∃ o', Hid (off' + k * 2 = o') := ⟨_, Lib.hid rfl⟩
        rw [ho.out] at hx0 hx1
        rw [ho'.out] at hy0 hy1
        have hi := fun W => idx_off (W := W) (c := c) (b := b) Tryz.underlying25 I2 hlt ho.out
        have hi' := fun W => idx_off (W := W) (c := c') (b := b') Tryz.underlying25 I2 hlt ho'.out
        have hk64 : (k : Int) ≤ 9223372036854775807 := by omega
        by_cases he : x = y
        · have e1 : x.1 = y.1 := by rw [he]
          have e2 : x.2 = y.2 := by rw [he]
          have HE := Lib.hid he; clear he
          rw [e1] at hx0; rw [e2] at hx1
          clear e1 e2
          go_wp2
          go_quiet (fail)
          go_wp2
          go_roundw
          case rel => exact ⟨k + 1, by omega, by go_num, fun j hj => by
            rcases Nat.lt_succ_iff_lt_or_eq.1 hj with h | h
            · exact HR.out j h
            · rw [h, HX.out, HY.out, HE.out], _, rfl⟩
          case measure => simp [intOf]; omega
        · have HE := Lib.hid (QG.out k (by rw [HX.out, HY.out]; simpa using he))
          have hne : ¬ (x.1 = y.1 ∧ x.2 = y.2) := fun h => he (Prod.ext h.1 h.2)
          clear he
          by_cases e1 : x.1 = y.1
          · have e2 : (x.2 == y.2) = false := by rw [beq_eq_false_iff_ne]; exact fun h => hne ⟨e1, h⟩
            rw [e1] at hx0
            clear hne e1
            go_wp2
            go_quiet (fail)
            go_wp2
            go_ret
            exact ⟨by rw [HE.out]; rfl, _, World.drewN_drewN _ _ _⟩
          · have e2 : (x.1 == y.1) = false := by rw [beq_eq_false_iff_ne]; exact e1
            clear hne e1
            go_wp2
            go_quiet (fail)
            go_wp2
            go_ret
            exact ⟨by rw [HE.out]; rfl, _, World.drewN_drewN _ _ _⟩
      · have HE := Lib.hid (QF.out (fun j hj => HR.out j (by omega)))
        go_wp2
        go_ret
        exact ⟨by rw [HE.out]; rfl, _, rfl⟩
  · have hb : (((n : Nat) : Int) != ((n' : Nat) : Int)) = true := by rw [bne_iff_ne]; omega
    have hm' := hr'.maxn
    have HE : Hid (decide (l = l') = false) := Lib.hid (by rw [decide_eq_false_iff_not]; intro e; rw [e] at hl; exact hnn (hl.out.symm.trans hl'.out))
    clear hnn
    go_enter Tryz.func37, Tryz.ntmps37
    go_wp2
    go_ret
    exact ⟨by rw [HE.out]; rfl, 0, rfl⟩
end Go.Proofs.YtpjiakgfegnmcaaGreat
namespace Go.Proofs.YtpjiakgfegnmcaaGreat
set_option linter.unusedSimpArgs false
open Go.RowKit

theorem formed_kind {f : FrV} {x : NoteV} (h : formedB f x = true) (hd : doneB x = false) : x.kind = 6 ∨ (1 ≤ x.fix ∧ x.fix ≤ 4) := by
  unfold formedB at h
  rw [Bool.and_eq_true] at h
  have h := h.1
  unfold okB at h
  have hd : ¬ (1 ≤ x.kind ∧ x.kind ≤ 4) := by
    intro h1
    have : doneB x = true := inB_true.2 h1
    rw [hd] at this
    cases this
  split at h
  · exact absurd ⟨by omega, by omega⟩ hd
  · split at h
    · rw [Bool.and_eq_true, Bool.and_eq_true] at h
      exact .inr (inB_true.1 h.2.2)
    · rename_i h2 h5
      left
      unfold saidB at h
      grind
theorem formed_len {f : FrV} {n : NoteV} (hv : f.valid = true) (hf : formedB f n = true) : n.strokes.length ≤ 200 := by
  have hst : n.strokes = [] ∨ strokesB (f.sectors - f.wide) n.strokes = true := by
    rw [formed_well hv] at hf
    simp only [wellB, zero14, bareR, bare0, rightB] at hf
    grind
  rcases hst with e | e
  · rw [e]; simp
  · simp only [strokesB, strokesP, Bool.and_eq_true, decide_eq_true_eq, inB_true] at e
    omega
def upTo (clock : Int) (l : List NoteV) : List NoteV := l.filter (fun x => !decide (clock < x.clock))
theorem upTo_map (clock : Int) (xs : List LN) : (xs.filter (fun x => !decide (clock < x.n.clock))).map LN.n = upTo clock (xs.map LN.n) := by
  unfold upTo
  rw [List.filter_map]
  rfl
theorem upTo_all {clock : Int} {l : List NoteV} (h : ∀ x ∈ l, x.clock ≤ clock) : upTo clock l = l := by
  unfold upTo
  rw [List.filter_eq_self]
  intro x hx
  have := h x hx
  simp
  omega
theorem upTo_sub (clock : Int) (l : List NoteV) : (upTo clock l).Sublist l := List.filter_sublist
theorem setF_filter {xs : List LN} (hd : ((xs.map LN.n).map nmOf).Nodup) (p : LN → Bool) : (fun a => Option.filter p (setF xs a)) = setF (xs.filter p) := by
  funext k
  have hd2 : (((xs.filter p).map LN.n).map nmOf).Nodup := hd.sublist ((List.filter_sublist.map _).map _)
  refine Option.ext fun x => ?_
  rw [setF_iff hd2, List.mem_filter, Option.filter_eq_some_iff, setF_iff hd]
  constructor
  · rintro ⟨⟨h1, h2⟩, h3⟩; exact ⟨⟨h1, h3⟩, h2⟩
  · rintro ⟨⟨h1, h3⟩, h2⟩; exact ⟨⟨h1, h2⟩, h3⟩
def AsAny (f : FrV) (l : List NoteV) (day clock : Int) (w : World) (e : Ending) (w' : World) : Prop :=
  ((checkSetP f l).1 ≠ 0 ∧ e = .returned (.tuple #[.agg #[.slice none 0 0, .slice none 0 0, .slice none 0 0], .int .i64 1])) ∨ ((checkSetP f l).1 = 0 ∧ AsEnd (upTo clock l) day w e w')

set_option maxHeartbeats 8000000 in
set_option maxRecDepth 100000 in
theorem asOf_any (f : FrV) (a : Option Addr) (n c : Nat) (l : List NoteV) (day clock : Int) (w : World) (hr : RdNs w a n c l) (hok : ∀ x ∈ l, x.Ok) :
    Calls Tryz.prog 20 #[f.val, .slice a n c, .int .i64 day, .int .i64 clock] w fun e w' => AsAny f l day clock w e w' ∧ Below w.heap.size w w' := by
  have HR := Lib.hid hr; clear hr
  have HOK := Lib.hid hok; clear hok
  have I3 : ∀ (x y z : Value), (Tryz.prog.info? 27).map (·.size) = some (#[x, y, z] : Array Value).size := fun x y z => by kernel_rfl
  have hmf : ∀ (fn : Fn) (first cap : Array Value) (w : World), (Instr.makeFunc fn first cap).run Tryz.prog w = .ok (.func fn first cap) w := fun _ _ _ _ => rfl
  have B0 := Lib.hid (((((Below.refl w.heap.size w).alloc (Nat.le_refl _) (.cells #[.int .i64 f.rings, .int .i64 f.sectors, .int .i64 f.wide] 23)).alloc (by simp) (.cells #[.int .i64 clock] 3)).alloc (by simp; omega) (.cells #[.slice none 0 0, .slice none 0 0, .slice none 0 0] 27)))
  have F0 := Lib.hid (heap_before _ (.cells #[.slice none 0 0, .slice none 0 0, .slice none 0 0] 27) _ _ (heap_before _ (.cells #[.int .i64 clock] 3) _ _ (heap_last w (.cells #[.int .i64 f.rings, .int .i64 f.sectors, .int .i64 f.wide] 23))))
  have C0 := Lib.hid (heap_before _ (.cells #[.slice none 0 0, .slice none 0 0, .slice none 0 0] 27) _ _ (heap_at (w.alloc (.cells #[.int .i64 f.rings, .int .i64 f.sectors, .int .i64 f.wide] 23)) (.cells #[.int .i64 clock] 3) (w.heap.size + 1) (by simp)))
  have P0 := Lib.hid (heap_at ((w.alloc (.cells #[.int .i64 f.rings, .int .i64 f.sectors, .int .i64 f.wide] 23)).alloc (.cells #[.int .i64 clock] 3)) (.cells #[.slice none 0 0, .slice none 0 0, .slice none 0 0] 27) (w.heap.size + 1 + 1) (by simp))
  unfold FrV.val
  go_enter Tryz.func20, Tryz.ntmps20
  go_upto_region 1 with fail
  obtain ⟨pF, hpF⟩ : ∃ pF, Hid (w.heap.size = pF) := ⟨_, Lib.hid rfl⟩
  obtain ⟨pC, hpC⟩ : ∃ pC, Hid (w.heap.size + 1 = pC) := ⟨_, Lib.hid rfl⟩
  obtain ⟨p, hp⟩ : ∃ p, Hid (w.heap.size + 1 + 1 = p) := ⟨_, Lib.hid rfl⟩
  rw [hp.out, hpC.out, hpF.out]
  rw [hpF.out] at F0
  rw [hpC.out] at C0
  rw [hp.out] at P0
  generalize ((w.alloc (.cells #[.int .i64 f.rings, .int .i64 f.sectors, .int .i64 f.wide] 23)).alloc (.cells #[.int .i64 clock] 3)).alloc (.cells #[.slice none 0 0, .slice none 0 0, .slice none 0 0] 27) = w0 at *
  have f0 := cell_of F0.out 0 (.int .i64 f.rings) rfl
  have f1 := cell_of F0.out 1 (.int .i64 f.sectors) rfl
  have f2 := cell_of F0.out 2 (.int .i64 f.wide) rfl
  go_wp2_with fail
  refine (setOf_any f a n c l w0 (HR.out.below B0.out) HOK.out).mono ?_
  rintro e w1 ⟨h1 | h1, hb1⟩
  · obtain ⟨hbad, rfl⟩ := h1
    have HBAD := Lib.hid hbad; clear hbad
    have P1 := Lib.hid (below_blk hb1 P0.out)
    have B1 := Lib.hid (B0.out.trans (hb1.mono B0.out.size))
    clear hb1
    go_wp2_with (first
      | (refine wpList_store_blkP rfl 27 _ _ rfl p #[.slice none 0 0, .slice none 0 0, .slice none 0 0] #[.slice none 0 0, .slice none 0 0, .slice none 0 0] 27 rfl rfl P1.out (by kernel_rfl) rfl (by simp [Value.oneCell']) ?_; intro w5 hr1 hr2 hr3)
      | fail)
    have B5 : Hid (Below w.heap.size w w5) := Lib.hid (B1.out.grown hr2 B1.out.size (fun k e => by cases e; have := hp.out; omega))
    refine bodyPost_ret (results_cell_row_tmp rfl _ w5 p 27 _ (0, 0) _ rfl hr1 Tryz.underlying27 rfl (by kernel_rfl)) rfl ?_
    exact ⟨.inl ⟨HBAD.out, rfl⟩, B5.out⟩
  obtain ⟨hset, xs0, b, rfl, h2, h3, h4, h5⟩ := h1
  have HSET := Lib.hid hset; clear hset
  have HXS0 := Lib.hid h2
  have HXO := Lib.hid h3
  have HM := Lib.hid h4
  have HBB := Lib.hid h5
  have HB1 := Lib.hid hb1
  clear h2 h3 h4 h5 hb1
  go_wp2_with (first
    | (go_at_call 55
       refine (delete_any b l.length (setF xs0) pC clock w1 HM.out (below_blk HB1.out C0.out)).mono ?_
       rintro e w2 ⟨rfl, h2, h3⟩
       have HM2 := Lib.hid h2
       have HG2 := Lib.hid h3
       clear h2 h3
       dsimp only)
    | fail)
  have ND0 : Hid (((xs0.map LN.n).map nmOf).Nodup) := Lib.hid (by rw [HXS0.out]; exact set_nodup (set_ok HSET.out).2.2.2)
  obtain ⟨xs, hxs⟩ : ∃ xs, Hid (xs0.filter (fun x => !decide (clock < x.n.clock)) = xs) := ⟨_, Lib.hid rfl⟩
  rw [setF_filter ND0.out, hxs.out] at HM2
  have HXS : Hid (xs.map LN.n = upTo clock l) := Lib.hid (by rw [← hxs.out, upTo_map, HXS0.out])
  have HSUB : Hid (∀ x ∈ xs, x ∈ xs0) := Lib.hid (fun x hx => by rw [← hxs.out] at hx; exact (List.mem_filter.1 hx).1)
  have HSL : Hid (∀ x ∈ xs, x.n ∈ l) := Lib.hid (fun x hx => by rw [← HXS0.out]; exact List.mem_map_of_mem (HSUB.out x hx))
  clear hmf f0 f1 f2
  have HLN : Hid (l.length ≤ 400) := Lib.hid (set_ok HSET.out).2.1
  have HXN : Hid (xs.length ≤ 400) := Lib.hid (by have h1 := congrArg List.length HXS.out; rw [List.length_map] at h1; rw [h1]; exact Nat.le_trans (upTo_sub clock l).length_le HLN.out)
  have FO : Hid (FOk (setF xs)) := Lib.hid (fun k x h => ⟨HOK.out x.n (HSL.out x (setF_some h).1), (setF_some h).2⟩)
  obtain ⟨es, ck, hbm⟩ := HM.out.blk
  have HXO2 : Hid (∀ x ∈ xs, x.ok w2) := Lib.hid (fun x hx => ok_grown (HXO.out x (HSUB.out x hx)) HG2.out hbm)
  have B2 : Hid (Below w.heap.size w w2) := Lib.hid ((B0.out.trans (HB1.out.mono B0.out.size)).grown HG2.out (Nat.le_trans B0.out.size HB1.out.size) (fun k e => by cases e; exact Nat.le_trans B0.out.size HBB.out))
  have P2 : Hid (w2.heap[p]? = some (.cells #[.slice none 0 0, .slice none 0 0, .slice none 0 0] 27 (0, 0))) := Lib.hid (grown_blk HG2.out (below_blk HB1.out P0.out) (fun e => by have h1 := below_blk HB1.out P0.out; rw [Option.some.inj e, hbm] at h1; simp at h1))
  clear hbm HM HXO HG2 HB1 HBB F0 C0 P0 B0
  refine (sit_any b l.length (setF xs) w2 HM2.out FO.out (by have := HLN.out; omega)).mono ?_
  rintro e w3 ⟨⟨pB, bJ, va, vn, vc, ks, J, rfl, h2, h3, h4, h5, h6, h7, h8, h9, h10⟩, hb3⟩
  have hvn : vn = (vacs (setF xs) ks).length := by have := h8.1; rw [nmCells_len] at this; omega
  subst hvn
  have HBN := Lib.hid h2
  have HND := Lib.hid h3
  have HAL := Lib.hid h4
  have HMJ := Lib.hid h5
  have HJO := Lib.hid h7
  have HVA := Lib.hid (RdA.of_own h8)
  have HB3 := Lib.hid hb3
  clear h2 h3 h4 h5 h6 h7 h8 h9 h10 hb3
  have P3 := Lib.hid (below_blk HB3.out P2.out)
  have B3 := Lib.hid (B2.out.trans (HB3.out.mono B2.out.size))
  dsimp only
  go_wp2_with (first
    | (go_at_call 58
       refine (register_any pB b bJ l.length ks.length va vc (vacs (setF xs) ks) (setF xs) J day w3 HBN.out (HM2.out.below HB3.out) HMJ.out FO.out (fun a x h => by obtain ⟨⟨k, _, h1⟩, _⟩ := (HJO.out a).2 x h; exact ⟨k, h1⟩)
         (fun a x h => ⟨(HXO2.out x (setF_some h).1).below HB3.out, Nat.le_trans (formed_len (set_ok HSET.out).1 ((set_ok HSET.out).2.2.1 x.n (HSL.out x (setF_some h).1))) (by decide)⟩) (by have := HLN.out; omega) HVA.out
         (evN_kind HJO.out (fun x hx => formed_kind ((set_ok HSET.out).2.2.1 x.n (HSL.out x hx))))
         (fun ks' hn' _ => by have h1 := evs_le (xs := xs) (J := J) hn'; have h2 := vacs_le (xs := xs) HND.out; have h3 := HXN.out; omega)).mono ?_
       rintro e w4 ⟨hE, hb4⟩
       have HE := Lib.hid hE
       obtain ⟨R, ha, hc, ea, ec, ca, cc, ys, ks2, rfl, -⟩ := hE
       have P4 := Lib.hid (below_blk hb4 P3.out)
       have B4 := Lib.hid (B3.out.trans (hb4.mono B3.out.size))
       clear hb4
       dsimp only)
    | (refine wpList_store_blkP rfl 27 _ _ rfl p #[.slice none 0 0, .slice none 0 0, .slice none 0 0] #[.slice ha R.hs.length hc, .slice ea R.es.length ec, .slice ca R.cs.length cc] 27 rfl rfl P4.out (by kernel_rfl) rfl (by simp [Value.oneCell']) ?_; intro w5 hr1 hr2 hr3)
    | fail)
  have B5 : Hid (Below w.heap.size w w5) := Lib.hid (B4.out.grown hr2 B4.out.size (fun k e => by cases e; have := hp.out; omega))
  have HE5 := Lib.hid ((HE.out.kept P4.out hr2).mono B3.out.size)
  refine bodyPost_ret (results_cell_row_tmp rfl _ w5 p 27 _ (0, 0) _ rfl hr1 Tryz.underlying27 rfl (by kernel_rfl)) rfl ?_
  exact ⟨.inr ⟨HSET.out, _, xs, ks, J, rfl, HXS.out, HND.out, HAL.out, HJO.out, HE5.out⟩, B5.out⟩
end Go.Proofs.YtpjiakgfegnmcaaGreat
namespace Go.Proofs.YtpjiakgfegnmcaaGreat
set_option linter.unusedSimpArgs false
open Go.RowKit

theorem formed_clock {f : FrV} {x : NoteV} (h : formedB f x = true) : 1 ≤ x.clock ∧ x.clock ≤ 1099511627776 := by
  unfold formedB at h
  simp only [Bool.and_eq_true] at h
  exact inB_true.1 h.2.2.1
def FoldAny (f : FrV) (l : List NoteV) (w : World) (e : Ending) (w' : World) : Prop :=
  ((checkSetP f l).1 ≠ 0 ∧ e = .returned (.tuple #[.agg #[.slice none 0 0, .slice none 0 0, .slice none 0 0], .int .i64 1])) ∨ ((checkSetP f l).1 = 0 ∧ AsEnd l 99999 w e w')
theorem FoldAny.ok {f : FrV} {l : List NoteV} {w w' : World} {e : Ending} (h : FoldAny f l w e w') (hs : (checkSetP f l).1 = 0) : AsEnd l 99999 w e w' := by
  rcases h with ⟨h, _⟩ | ⟨_, h⟩
  · exact absurd hs h
  · exact h

set_option maxHeartbeats 8000000 in
set_option maxRecDepth 100000 in
theorem fold_any (f : FrV) (a : Option Addr) (n c : Nat) (l : List NoteV) (w : World) (hr : RdNs w a n c l) (hok : ∀ x ∈ l, x.Ok) :
    Calls Tryz.prog 31 #[f.val, .slice a n c] w fun e w' => FoldAny f l w e w' ∧ Below w.heap.size w w' := by
  have HR := Lib.hid hr; clear hr
  have B0 := Lib.hid ((((Below.refl w.heap.size w).alloc (Nat.le_refl _) (.cells #[.int .i64 f.rings, .int .i64 f.sectors, .int .i64 f.wide] 23)).alloc (by simp) (.cells #[.slice none 0 0, .slice none 0 0, .slice none 0 0] 27)))
  have F0 := Lib.hid (heap_before _ (.cells #[.slice none 0 0, .slice none 0 0, .slice none 0 0] 27) _ _ (heap_last w (.cells #[.int .i64 f.rings, .int .i64 f.sectors, .int .i64 f.wide] 23)))
  have P0 := Lib.hid (heap_at (w.alloc (.cells #[.int .i64 f.rings, .int .i64 f.sectors, .int .i64 f.wide] 23)) (.cells #[.slice none 0 0, .slice none 0 0, .slice none 0 0] 27) (w.heap.size + 1) (by simp))
  have HA := Lib.hid (fun W hb => asOf_any f a n c l 99999 1099511627776 W (HR.out.below (show Below w.heap.size w W from hb)) hok)
  clear hok
  have hvl : f.val = .agg #[.int .i64 f.rings, .int .i64 f.sectors, .int .i64 f.wide] := rfl
  rw [hvl] at HA ⊢
  go_enter Tryz.func31, Tryz.ntmps31
  go_upto_region 1 with fail
  obtain ⟨pF, hpF⟩ : ∃ pF, Hid (w.heap.size = pF) := ⟨_, Lib.hid rfl⟩
  obtain ⟨p, hp⟩ : ∃ p, Hid (w.heap.size + 1 = p) := ⟨_, Lib.hid rfl⟩
  rw [hp.out, hpF.out]
  rw [hpF.out] at F0
  rw [hp.out] at P0
  generalize (w.alloc (.cells #[.int .i64 f.rings, .int .i64 f.sectors, .int .i64 f.wide] 23)).alloc (.cells #[.slice none 0 0, .slice none 0 0, .slice none 0 0] 27) = w0 at *
  have f0 := cell_of F0.out 0 (.int .i64 f.rings) rfl
  have f1 := cell_of F0.out 1 (.int .i64 f.sectors) rfl
  have f2 := cell_of F0.out 2 (.int .i64 f.wide) rfl
  go_wp2_with fail
  refine (HA.out w0 B0.out).mono ?_
  rintro e w4 ⟨h1 | h1, hb4⟩
  · obtain ⟨hbad, rfl⟩ := h1
    have HBAD := Lib.hid hbad; clear hbad
    have P4 := Lib.hid (below_blk hb4 P0.out)
    have B4 := Lib.hid (B0.out.trans (hb4.mono B0.out.size))
    clear hb4
    go_wp2_with (first
      | (refine wpList_store_blkP rfl 27 _ _ rfl p #[.slice none 0 0, .slice none 0 0, .slice none 0 0] #[.slice none 0 0, .slice none 0 0, .slice none 0 0] 27 rfl rfl P4.out (by kernel_rfl) rfl (by simp [Value.oneCell']) ?_; intro w5 hr1 hr2 hr3)
      | fail)
    have B5 : Hid (Below w.heap.size w w5) := Lib.hid (B4.out.grown hr2 B4.out.size (fun k e => by cases e; have := hp.out; omega))
    refine bodyPost_ret (results_cell_row_tmp rfl _ w5 p 27 _ (0, 0) _ rfl hr1 Tryz.underlying27 rfl (by kernel_rfl)) rfl ?_
    exact ⟨.inl ⟨HBAD.out, rfl⟩, B5.out⟩
  obtain ⟨hset, hE⟩ := h1
  rw [upTo_all (fun x hx => (formed_clock ((set_ok hset).2.2.1 x hx)).2)] at hE
  have HSET := Lib.hid hset; clear hset
  obtain ⟨v, xs, ks, J, rfl, hxs, hnd, hal, hjo, hE⟩ := hE
  have HE := Lib.hid hE
  have HX := Lib.hid (And.intro hxs (And.intro hnd (And.intro hal hjo)))
  obtain ⟨R, ha, hc, ea, ec, ca, cc, ys, ks2, hv, -⟩ := hE
  obtain rfl : v = _ := by injection hv
  have P4 := Lib.hid (below_blk hb4 P0.out)
  have B4 := Lib.hid (B0.out.trans (hb4.mono B0.out.size))
  clear hb4 hxs hnd hal hjo
  dsimp only
  go_wp2_with (first
    | (refine wpList_store_blkP rfl 27 _ _ rfl p #[.slice none 0 0, .slice none 0 0, .slice none 0 0] #[.slice ha R.hs.length hc, .slice ea R.es.length ec, .slice ca R.cs.length cc] 27 rfl rfl P4.out (by kernel_rfl) rfl (by simp [Value.oneCell']) ?_; intro w5 hr1 hr2 hr3)
    | fail)
  have B5 : Hid (Below w.heap.size w w5) := Lib.hid (B4.out.grown hr2 B4.out.size (fun k e => by cases e; have := hp.out; omega))
  have HE5 := Lib.hid ((HE.out.kept P4.out hr2).mono B0.out.size)
  refine bodyPost_ret (results_cell_row_tmp rfl _ w5 p 27 _ (0, 0) _ rfl hr1 Tryz.underlying27 rfl (by kernel_rfl)) rfl ?_
  exact ⟨.inr ⟨HSET.out, _, xs, ks, J, rfl, HX.out.1, HX.out.2.1, HX.out.2.2.1, HX.out.2.2.2, HE5.out⟩, B5.out⟩
end Go.Proofs.YtpjiakgfegnmcaaGreat
namespace Go.Proofs.YtpjiakgfegnmcaaGreat
set_option linter.unusedSimpArgs false
open Go.RowKit

theorem lnCells_len (xs : List LN) : (lnCells xs).length = xs.length * 19 := by
  rw [lnCells, flat_len 19 _ (by intro r hr; obtain ⟨e, _, rfl⟩ := List.mem_map.1 hr; rfl), List.length_map]
theorem rdNs_of {W : World} {a : Option Addr} {n c : Nat} {xs : List LN} (h : RdA W 19 a n c (lnCells xs)) (hs : ∀ x ∈ xs, x.ok W) : RdNs W a n c (xs.map LN.n) := by
  have hl : xs.length = n := by have := h.len; rw [lnCells_len] at this; omega
  refine ⟨by rw [List.length_map, hl], h.2.1, h.2.2.1, ?_⟩
  rcases h.2.2.2 with h0 | ⟨b, off, rfl, h4⟩
  · exact .inl h0
  · rcases Nat.eq_zero_or_pos n with hn | hn
    · refine .inr ⟨b, off, rfl, fun i x hx => ?_⟩
      have : xs = [] := List.eq_nil_of_length_eq_zero (by omega)
      subst this
      simp at hx
    · obtain ⟨b', off', e, hat⟩ := ln_at h hn
      cases e
      refine .inr ⟨b, off, rfl, fun i x hx => ?_⟩
      rw [List.getElem?_map] at hx
      cases hy : xs[i]? with
      | none => simp [hy] at hx
      | some y =>
        simp only [hy, Option.map_some, Option.some.injEq] at hx
        subst hx
        exact ⟨y.sa, y.sc, hat i y hy, hs y (List.mem_of_getElem? hy)⟩
def smpX (sb : Nat) : List LN := [⟨smp1, none, 0⟩, ⟨smp2, none, 0⟩, ⟨smp3, some ⟨sb, 0, none⟩, 3⟩]
def lateX (sb : Nat) : List LN := [⟨smp1, none, 0⟩, ⟨smp2, none, 0⟩, ⟨smp3, some ⟨sb, 0, none⟩, 3⟩, ⟨smp4, none, 0⟩]
theorem i64_dec {z : Int} (h : decide (-9223372036854775808 ≤ z ∧ z ≤ 9223372036854775807) = true) : I64 z := by
  have := of_decide_eq_true h
  unfold I64
  omega
theorem late_Ok : ∀ x ∈ lateL, x.Ok := by
  intro x hx
  simp only [lateL, List.mem_cons, List.not_mem_nil, or_false] at hx
  rcases hx with rfl | rfl | rfl | rfl
  all_goals
    constructor
    all_goals first
      | exact i64_dec (by decide)
      | (intro z hz; simp [smp1, smp2, smp3, smp4, zeroN] at hz; rcases hz with rfl | rfl <;> exact i64_dec (by decide))
      | (intro z hz; simp [smp1, smp2, smp3, smp4, zeroN] at hz)
theorem smp_Ok : ∀ x ∈ smpL, x.Ok := fun x hx => late_Ok x (by simp only [smpL, lateL, List.mem_cons, List.not_mem_nil, or_false] at hx ⊢; rcases hx with h | h | h <;> simp [h])
theorem ev_eta {e : EvV} {n : NoteV} (h : e.x.n = n) (hn : e.nm = nmOf e.x.n) : ∃ s c, e = ⟨nmOf n, ⟨n, s, c⟩⟩ := by
  obtain ⟨nm, ⟨m, s, c⟩⟩ := e
  simp only at h hn
  subst h
  subst hn
  exact ⟨s, c, rfl⟩
theorem len_two {α : Type} {l : List α} (h : l.length = 2) : ∃ a b, l = [a, b] := match l, h with | [a, b], _ => ⟨a, b, rfl⟩
theorem smp_reg {R : RegV} (h1 : R.hs.map (fun e => e.x.n) = (regN 99999 smpL).hs) (h2 : R.es.map (fun e => e.x.n) = (regN 99999 smpL).es) (h3 : R.cs = csN 99999 smpL) (h4 : ∀ e ∈ R.hs ++ R.es, e.nm = nmOf e.x.n) :
    ∃ s1 c1 s2 c2 s3 c3, R = ⟨[⟨(1, 1), ⟨smp1, s1, c1⟩⟩], [⟨(1, 2), ⟨smp2, s2, c2⟩⟩, ⟨(1, 3), ⟨smp3, s3, c3⟩⟩], []⟩ := by
  rw [smp_hs] at h1
  rw [smp_es] at h2
  rw [smp_cs] at h3
  obtain ⟨hs, es, cs⟩ := R
  simp only at h1 h2 h3 h4
  subst h3
  obtain ⟨e1, rfl⟩ : ∃ e1, hs = [e1] := List.length_eq_one_iff.1 (by have := congrArg List.length h1; simpa using this)
  obtain ⟨e2, e3, rfl⟩ : ∃ e2 e3, es = [e2, e3] := len_two (by have := congrArg List.length h2; simpa using this)
  simp only [List.map_cons, List.map_nil, List.cons.injEq, and_true] at h1 h2
  obtain ⟨s1, c1, rfl⟩ := ev_eta h1 (h4 e1 (by simp))
  obtain ⟨s2, c2, rfl⟩ := ev_eta h2.1 (h4 e2 (by simp))
  obtain ⟨s3, c3, rfl⟩ := ev_eta h2.2 (h4 e3 (by simp))
  exact ⟨s1, c1, s2, c2, s3, c3, rfl⟩
section
variable (s1 : Option Addr) (c1 : Nat) (s2 : Option Addr) (c2 : Nat) (s3 : Option Addr) (c3 : Nat)
theorem smp_heap : heapOfV [⟨(1, 1), ⟨smp1, s1, c1⟩⟩] 1 1 = #[.int .i64 0, .int .i64 0] := by kernel_rfl
theorem smp_pass : passesV [⟨(1, 1), ⟨smp1, s1, c1⟩⟩] [⟨(1, 2), ⟨smp2, s2, c2⟩⟩, ⟨(1, 3), ⟨smp3, s3, c3⟩⟩] 0 = (3, 0) := by kernel_rfl
theorem smp_son : sonV smpF [⟨(1, 1), ⟨smp1, s1, c1⟩⟩] [⟨(1, 2), ⟨smp2, s2, c2⟩⟩, ⟨(1, 3), ⟨smp3, s3, c3⟩⟩] 0 1 = some [2, 2, 1, 1] := by kernel_rfl
end
end Go.Proofs.YtpjiakgfegnmcaaGreat
namespace Go.Proofs.YtpjiakgfegnmcaaGreat
set_option linter.unusedSimpArgs false
open Go.RowKit

set_option maxHeartbeats 16000000 in
set_option maxRecDepth 100000 in
theorem hawake_any (w : World) : Calls Tryz.prog 10 #[] w fun e w' => e = .returned (.bool true) ∧ Below w.heap.size w w' := by
  have I3 : ∀ (x y z : Value), (Tryz.prog.info? 27).map (·.size) = some (#[x, y, z] : Array Value).size := fun x y z => by kernel_rfl
  go_enter Tryz.func10, Tryz.ntmps10
  go_upto_region 2 with (first
    | (go_at_call 43
       refine (frame_any _).mono ?_
       rintro e w1 ⟨rfl, hb1⟩
       have B1 := Lib.hid hb1
       clear hb1
       dsimp only)
    | (go_at_call 44
       refine (sample_any _).mono ?_
       rintro e w2 ⟨b, sb, rfl, ho2, hr2, hb2, _⟩
       have B2 := Lib.hid (B1.out.trans (hb2.mono B1.out.size))
       have N2 : Hid (RdNs w2 (some ⟨b, 0, none⟩) 3 3 smpL) := Lib.hid (rdNs_of (xs := smpX sb) (RdA.of_own ho2) (by
         intro x hx
         simp only [smpX, List.mem_cons, List.not_mem_nil, or_false] at hx
         rcases hx with rfl | rfl | rfl
         · exact RdA.nil w2 1
         · exact RdA.nil w2 1
         · exact hr2))
       clear ho2 hr2 hb2
       dsimp only)
    | (go_at_call 31
       refine (fold_any smpF (some ⟨b, 0, none⟩) 3 3 smpL w2 N2.out smp_Ok).mono ?_
       rintro e w3 ⟨hE, hb3⟩
       replace hE := hE.ok smp_set
       obtain ⟨v, R, rfl, ⟨ha, hc, ea, ec, ca, cc, rfl, o1, o2, o3, o4⟩, q1, q2, q3, q4⟩ := asEnd_reg hE (set_ok smp_set).2.2.2
       obtain ⟨s1, c1, s2, c2, s3, c3, rfl⟩ := smp_reg q1 q2 q3 q4
       have B3 := Lib.hid (B2.out.trans (hb3.mono B2.out.size))
       have H3 : Hid (RdA w3 21 ha 1 hc (evCells [⟨(1, 1), ⟨smp1, s1, c1⟩⟩])) := Lib.hid (RdA.of_own o1)
       have E3 : Hid (RdA w3 21 ea 2 ec (evCells [⟨(1, 2), ⟨smp2, s2, c2⟩⟩, ⟨(1, 3), ⟨smp3, s3, c3⟩⟩])) := Lib.hid (RdA.of_own o2)
       have OK3 : Hid (∀ e ∈ ([⟨(1, 1), ⟨smp1, s1, c1⟩⟩] : List EvV) ++ [⟨(1, 2), ⟨smp2, s2, c2⟩⟩, ⟨(1, 3), ⟨smp3, s3, c3⟩⟩], e.x.ok w3) := Lib.hid (fun e he => RdA.of_own (o4 e he))
       clear o1 o2 o3 o4 q1 q2 q3 q4 hE hb3
       simp only [List.length_cons, List.length_nil, Nat.reduceAdd])
    | fail)
  have hbt : Below w3.heap.size w3 (w3.alloc (.cells #[.slice ha 1 hc, .slice ea 2 ec, .slice ca 0 cc] 27)) := (Below.refl _ _).alloc (Nat.le_refl _) _
  have P4 := Lib.hid (heap_last w3 (.cells #[.slice ha 1 hc, .slice ea 2 ec, .slice ca 0 cc] 27))
  have B4 := Lib.hid (B3.out.trans (hbt.mono B3.out.size))
  have H4 := Lib.hid (H3.out.below hbt)
  have E4 := Lib.hid (E3.out.below hbt)
  have OK4 := Lib.hid (evs_ok OK3.out hbt)
  clear hbt H3 E3 OK3 B3 B2 B1 N2
  obtain ⟨p1, hp1⟩ : ∃ p1, Hid (w3.heap.size = p1) := ⟨_, Lib.hid rfl⟩
  rw [hp1.out] at P4 ⊢
  generalize w3.alloc (.cells #[.slice ha 1 hc, .slice ea 2 ec, .slice ca 0 cc] 27) = W4 at *
  have c0 := cell_of P4.out 0 (.slice ha 1 hc) rfl
  have c1' := cell_of P4.out 1 (.slice ea 2 ec) rfl
  have c2' := cell_of P4.out 2 (.slice ca 0 cc) rfl
  go_upto_region 3 with (first
    | (go_at_call 12
       refine (heapOf_any [⟨(1, 1), ⟨smp1, s1, c1⟩⟩] ha 1 hc _ _ 1 1 W4 (RdEs.of_rd H4.out)).mono ?_
       rintro e w5 ⟨rfl, hb5⟩
       rw [smp_heap]
       have B5 := Lib.hid (B4.out.trans (hb5.mono B4.out.size))
       have H5 := Lib.hid (H4.out.below hb5)
       have E5 := Lib.hid (E4.out.below hb5)
       have OK5 := Lib.hid (evs_ok OK4.out hb5)
       have P5 := Lib.hid (below_blk hb5 P4.out)
       clear hb5 H4 E4 OK4 P4 B4
       dsimp only)
    | fail)
  clear c0 c1' c2'
  have c0 := cell_of P5.out 0 (.slice ha 1 hc) rfl
  have c1' := cell_of P5.out 1 (.slice ea 2 ec) rfl
  have c2' := cell_of P5.out 2 (.slice ca 0 cc) rfl
  go_upto_region 4 with (first
    | (go_at_call 14
       refine (passes_any [⟨(1, 1), ⟨smp1, s1, c1⟩⟩] [⟨(1, 2), ⟨smp2, s2, c2⟩⟩, ⟨(1, 3), ⟨smp3, s3, c3⟩⟩] ha 1 hc ea 2 ec _ 0 w5 (RdEs.of_rd H5.out) E5.out).mono ?_
       rintro e w6 ⟨rfl, hb6⟩
       rw [smp_pass]
       have B6 := Lib.hid (B5.out.trans (hb6.mono B5.out.size))
       have H6 := Lib.hid (H5.out.below hb6)
       have E6 := Lib.hid (E5.out.below hb6)
       have OK6 := Lib.hid (evs_ok OK5.out hb6)
       have P6 := Lib.hid (below_blk hb6 P5.out)
       clear hb6 H5 E5 OK5 P5 B5
       dsimp only)
    | fail)
  clear c0 c1' c2'
  refine wp_region_noPanic ?_
  refine wp_region_held_drew (S := fun w' => w'.heap[p1]? = some (.cells #[.slice ha 1 hc, .slice ea 2 ec, .slice ca 0 cc] 27 (0, 0))) (by kernel_rfl) (show w6.drew.heap[p1]? = _ from P6.out) (fun hHeld => ?_)
  refine wpAnyH_take (i := 1) (v := .agg #[.slice ha 1 hc, .slice ea 2 ec, .slice ca 0 cc]) rfl (by kernel_rfl) (by kernel_rfl) (by kernel_rfl) (fun _ _ _ h => h) (Or.inl ⟨by kernel_rfl, by intro W h; have h0 := cell_of h 0 (.slice ha 1 hc) rfl; have h1 := cell_of h 1 (.slice ea 2 ec) rfl; have h2 := cell_of h 2 (.slice ca 0 cc) rfl; go_simp⟩) (by assumption) ?_
  try simp only [Act.put, lq0, lq1, lq2, lq3, lq4, lq5]
  refine wpAnyH_ready (rs := [0]) (by kernel_rfl) (by simp) ?_
  refine AllReadyH.cons rfl (fun K hK => ?_) AllReadyH.nil
  go_simp
  go_at_call 43
  refine (frame_any _).mono ?_
  rintro e w7 ⟨rfl, hb7⟩
  have hd7 : Below w6.heap.size w6 w7 := ((Below.refl w6.heap.size w6).drew).trans hb7
  have B7 := Lib.hid (B6.out.trans (hd7.mono B6.out.size))
  have H7 := Lib.hid (H6.out.below hd7)
  have E7 := Lib.hid (E6.out.below hd7)
  have OK7 := Lib.hid (evs_ok OK6.out hd7)
  have P7 := Lib.hid (below_blk hd7 P6.out)
  clear hb7 hd7 H6 E6 OK6 P6 B6
  dsimp only
  refine hK.out _ _ P7.out (fun hHeld => ?_)
  clear hK K
  try simp only [Act.put, lq0, lq1, lq2, lq3, lq4, lq5]
  refine wpAnyH_ready (rs := [2]) (by kernel_rfl) (by simp) ?_
  refine AllReadyH.cons rfl (fun K hK => ?_) AllReadyH.nil
  go_simp
  go_at_call 16
  refine (strokesOn_any smpF [⟨(1, 1), ⟨smp1, s1, c1⟩⟩] [⟨(1, 2), ⟨smp2, s2, c2⟩⟩, ⟨(1, 3), ⟨smp3, s3, c3⟩⟩] ha 1 hc ea 2 ec _ 0 1 w7 H7.out E7.out OK7.out).mono ?_
  rintro e w8 ⟨hE, hb8⟩
  rw [smp_son] at hE
  obtain ⟨bT, rfl, ht8, _⟩ := hE
  have T8 : Hid (RdI w8 (some ⟨bT, 0, none⟩) 4 4 [2, 2, 1, 1]) := Lib.hid ⟨rfl, Nat.le_refl _, by unfold maxLen; omega, .inr ⟨bT, 0, rfl, fun i x hx => by rw [Nat.zero_add]; exact cell_of ht8 i x (by simpa using hx)⟩⟩
  have B8 := Lib.hid (B7.out.trans (hb8.mono B7.out.size))
  have P8 := Lib.hid (below_blk hb8 P7.out)
  clear hb8 ht8 H7 E7 OK7 P7 B7
  simp only [List.length_cons, List.length_nil, Nat.reduceAdd]
  refine hK.out _ _ P8.out (fun hHeld => ?_)
  clear hK K
  try simp only [Act.put, lq0, lq1, lq2, lq3, lq4, lq5]
  refine wpAnyH_take (i := 3) (v := .tuple #[.slice (some ⟨bT, 0, none⟩) 4 4, .int .i64 0]) rfl (by kernel_rfl) (by kernel_rfl) (by kernel_rfl) (fun _ _ _ h => h) (Or.inl ⟨by kernel_rfl, by intro W _; go_simp⟩) (by assumption) ?_
  try simp only [Act.put, lq0, lq1, lq2, lq3, lq4, lq5]
  refine wpAnyH_take (i := 4) (v := .slice (some ⟨bT, 0, none⟩) 4 4) rfl (by kernel_rfl) (by kernel_rfl) (by kernel_rfl) (fun _ _ _ h => h) (Or.inl ⟨by kernel_rfl, by intro W _; go_simp⟩) (by assumption) ?_
  try simp only [Act.put, lq0, lq1, lq2, lq3, lq4, lq5]
  refine wpAnyH_take (i := 5) (v := .int .i64 0) rfl (by kernel_rfl) (by kernel_rfl) (by kernel_rfl) (fun _ _ _ h => h) (Or.inl ⟨by kernel_rfl, by intro W _; go_simp⟩) (by assumption) ?_
  try simp only [Act.put, lq0, lq1, lq2, lq3, lq4, lq5]
  refine wpAnyH_take (i := 6) (v := .slice (some ⟨bT, 0, none⟩) 4 4) rfl (by kernel_rfl) (by kernel_rfl) (by kernel_rfl) (fun _ _ _ h => h) (Or.inl ⟨by kernel_rfl, by intro W _; go_simp⟩) (by assumption) ?_
  try simp only [Act.put, lq0, lq1, lq2, lq3, lq4, lq5]
  refine wpAnyH_take (i := 7) (v := .int .i64 0) rfl (by kernel_rfl) (by kernel_rfl) (by kernel_rfl) (fun _ _ _ h => h) (Or.inl ⟨by kernel_rfl, by intro W _; go_simp⟩) (by assumption) ?_
  try simp only [Act.put, lq0, lq1, lq2, lq3, lq4, lq5]
  refine wpAnyH_done (by kernel_rfl) ?_ _
  refine NoPanic.normal ?_
  go_upto_region 6 with (first
    | (go_at_call 44
       refine (sample_any _).mono ?_
       rintro e w9 ⟨bs, sb2, rfl, ho9, hr9, hb9, hne9⟩
       have ha9 : Below w9.heap.size w9 (w9.alloc (.cells (noteA smp4 none 0) 51)) := (Below.refl _ _).alloc (Nat.le_refl _) _
       have hb89 : Below w8.heap.size w8 (w9.alloc (.cells (noteA smp4 none 0) 51)) := hb9.trans (ha9.mono hb9.size)
       have hr89 := hr9.below ha9
       obtain ⟨a', c', w10, hrun, ho10, hg10⟩ := run_app_nt (w9.alloc (.cells (noteA smp4 none 0) 51)) w8.heap.size (some ⟨bs, 0, none⟩) 3 3 _ (own_below ho9 ha9) (some ⟨w9.heap.size, 0, none⟩) 1 1 (smp4.cells none 0) (lit_note w9 smp4 none 0) (fun u hu => smp4.cells_one _ _ u hu) (by omega) hb89.size
       have hgr : Below w8.heap.size w8 w10 := hb89.grown hg10 hb89.size (fun k hk => (ho9.lt k hk).1)
       have B10 := Lib.hid (B8.out.trans (hgr.mono B8.out.size))
       have P10 := Lib.hid (below_blk hgr P8.out)
       have T10 := Lib.hid (T8.out.below hgr)
       have hs10 : RdI w10 (some ⟨sb2, 0, none⟩) 3 3 [0, 0, 2] := RdI.ne hr89 (Same.of_grown (S := fun k => k = bs) hg10 (fun k e => (Option.some.inj e).symm)) (fun x o e => by cases e; exact hne9)
       have N10 : Hid (RdNs w10 a' 4 c' lateL) := Lib.hid (rdNs_of (xs := lateX sb2) (RdA.of_own ho10) (by
         intro x hx
         simp only [lateX, List.mem_cons, List.not_mem_nil, or_false] at hx
         rcases hx with rfl | rfl | rfl | rfl
         · exact RdA.nil w10 1
         · exact RdA.nil w10 1
         · exact hs10
         · exact RdA.nil w10 1))
       clear hb89 ha9 hr89 ho9 hr9 hb9 hne9 ho10 hg10 hgr hs10 B8 P8 T8 hHeld
       dsimp only)
    | (refine wpList_append_eq rfl _ _ _ rfl _ _ _ rfl rfl hrun ?_)
    | fail)
  clear hrun
  go_upto_region 7 with (first
    | (go_at_call 43
       refine (frame_any _).mono ?_
       rintro e w11 ⟨rfl, hb11⟩
       have B11 := Lib.hid (B10.out.trans (hb11.mono B10.out.size))
       have P11 := Lib.hid (below_blk hb11 P10.out)
       have T11 := Lib.hid (T10.out.below hb11)
       have N11 := Lib.hid (N10.out.below hb11)
       clear hb11 B10 P10 T10 N10
       dsimp only)
    | (go_at_call 31
       refine (fold_any smpF a' 4 c' lateL w11 N11.out late_Ok).mono ?_
       rintro e w12 ⟨hE, hb12⟩
       replace hE := hE.ok late_set
       obtain ⟨v, R, rfl, ⟨ha2, hc2, ea2, ec2, ca2, cc2, rfl, o1, o2, o3, o4⟩, q1, q2, q3, q4⟩ := asEnd_reg hE (set_ok late_set).2.2.2
       rw [late_cs] at q3
       rw [q3] at o3
       have C12 : Hid (RdA w12 2 ca2 1 cc2 (nmCells [(1, 2)])) := Lib.hid (RdA.of_own o3)
       rw [q3]
       have B12 := Lib.hid (B11.out.trans (hb12.mono B11.out.size))
       have P12 := Lib.hid (below_blk hb12 P11.out)
       have T12 := Lib.hid (T11.out.below hb12)
       clear o1 o2 o3 o4 q1 q2 q4 hE hb12 B11 P11 T11 N11
       simp only [List.length_cons, List.length_nil, Nat.reduceAdd])
    | fail)
  have hbt : Below w12.heap.size w12 (w12.alloc (.cells #[.slice ha2 R.hs.length hc2, .slice ea2 R.es.length ec2, .slice ca2 1 cc2] 27)) := (Below.refl _ _).alloc (Nat.le_refl _) _
  have Q13 := Lib.hid (heap_last w12 (.cells #[.slice ha2 R.hs.length hc2, .slice ea2 R.es.length ec2, .slice ca2 1 cc2] 27))
  have P13 := Lib.hid (below_blk hbt P12.out)
  have T13 := Lib.hid (T12.out.below hbt)
  have C13 := Lib.hid (C12.out.below hbt)
  have B13 := Lib.hid (B12.out.trans (hbt.mono B12.out.size))
  clear hbt B12 P12 T12 C12
  obtain ⟨p10, hp10⟩ : ∃ p10, Hid (w12.heap.size = p10) := ⟨_, Lib.hid rfl⟩
  rw [hp10.out] at Q13 ⊢
  generalize w12.alloc (.cells #[.slice ha2 R.hs.length hc2, .slice ea2 R.es.length ec2, .slice ca2 1 cc2] 27) = W13 at *
  have ha13 : Below W13.heap.size W13 (W13.alloc (.cells #[.int .i64 2, .int .i64 2, .int .i64 1, .int .i64 1] 3)) := (Below.refl _ _).alloc (Nat.le_refl _) _
  have L13 : Hid (RdI (W13.alloc (.cells #[.int .i64 2, .int .i64 2, .int .i64 1, .int .i64 1] 3)) (some ⟨W13.heap.size, 0, none⟩) 4 4 [2, 2, 1, 1]) :=
    Lib.hid (RdA.of_own (World.ownsRow_lit (base := W13.heap.size) (e := 3) (size := 1) W13 #[.int .i64 2, .int .i64 2, .int .i64 1, .int .i64 1] 4 (Nat.le_refl _) (by unfold maxLen; omega) rfl))
  have T14 := Lib.hid (T13.out.below ha13)
  have BA13 := Lib.hid ha13
  clear ha13
  have d0 := cell_of P13.out 0 (.slice ha 1 hc) rfl
  have d1 := cell_of P13.out 1 (.slice ea 2 ec) rfl
  have d2 := cell_of P13.out 2 (.slice ca 0 cc) rfl
  go_wp2_with (first
    | (go_at_call 18
       refine (sameInts_any _ 4 4 [2, 2, 1, 1] _ 4 4 [2, 2, 1, 1] _ T14.out L13.out).mono ?_
       rintro e w14 ⟨rfl, q14, hw14⟩
       have hb14 : Below W13.heap.size W13 w14 := by rw [hw14]; exact below_drewN BA13.out q14
       have B14 := Lib.hid (B13.out.trans (hb14.mono B13.out.size))
       have Q14 := Lib.hid (below_blk hb14 Q13.out)
       have C14 := Lib.hid (C13.out.below hb14)
       clear hb14 hw14 d0 d1 d2
       have d2 := cell_of Q14.out 2 (.slice ca2 1 cc2) rfl
       have ha14 : Below w14.heap.size w14 (w14.alloc (.cells #[.int .i64 1, .int .i64 2] 29)) := (Below.refl _ _).alloc (Nat.le_refl _) _
       have L14 : Hid (RdA (w14.alloc (.cells #[.int .i64 1, .int .i64 2] 29)) 2 (some ⟨w14.heap.size, 0, none⟩) 1 1 (nmCells [(1, 2)])) :=
         Lib.hid (RdA.of_own (World.ownsRow_lit (base := w14.heap.size) (e := 29) (size := 2) w14 #[.int .i64 1, .int .i64 2] 1 (Nat.le_refl _) (by unfold maxLen; omega) rfl))
       have C15 := Lib.hid (C14.out.below ha14)
       have B15 := Lib.hid (B14.out.trans (ha14.mono B14.out.size))
       clear ha14
       rw [show decide (([2, 2, 1, 1] : List Int) = [2, 2, 1, 1]) = true from by decide]
       dsimp only)
    | (go_at_call 37
       refine (sameNames_any _ 1 cc2 [(1, 2)] _ 1 1 [(1, 2)] _ C15.out L14.out).mono ?_
       rintro e w16 ⟨rfl, q16, hw16⟩
       have B16 : Hid (Below w.heap.size w w16) := Lib.hid (by rw [hw16]; exact below_drewN B15.out q16)
       clear hw16
       rw [show decide (([(1, 2)] : List Nm) = [(1, 2)]) = true from by decide]
       dsimp only)
    | fail)
  go_ret
  exact ⟨rfl, B16.out⟩
end Go.Proofs.YtpjiakgfegnmcaaGreat
namespace Go.Proofs.YtpjiakgfegnmcaaGreat
set_option linter.unusedSimpArgs false
open Go.RowKit

def fewN (n : Nat) : Bool := (decide ((60 : Int) < n) && decide ((n : Int) ≤ 400)) || decide ((800 : Int) < n)
def fewS (n : Nat) : Bool := (decide ((20 : Int) < n) && decide ((n : Int) ≤ 200)) || decide ((400 : Int) < n)
def fewB (l : List NoteV) : Bool := !fewN l.length && l.all (fun x => !fewS x.strokes.length)
theorem fewB_bad {l : List NoteV} {k : Nat} {x : NoteV} (hx : l[k]? = some x) (h : fewS x.strokes.length = true) : fewB l = false := by
  have : l.all (fun x => !fewS x.strokes.length) = false := by
    rw [List.all_eq_false]
    exact ⟨x, List.mem_of_getElem? hx, by rw [h]; decide⟩
  rw [fewB, this, Bool.and_false]
theorem fewB_good {l : List NoteV} (hn : fewN l.length = false) (h : ∀ k x, k < l.length → l[k]? = some x → fewS x.strokes.length = false) : fewB l = true := by
  have : l.all (fun x => !fewS x.strokes.length) = true := by
    rw [List.all_eq_true]
    intro x hx
    obtain ⟨k, hk⟩ := List.getElem?_of_mem hx
    rw [h k x (List.getElem?_eq_some_iff.1 hk).1 hk]; rfl
  rw [fewB, this, hn]; rfl
set_option maxHeartbeats 16000000 in
set_option maxRecDepth 100000 in
theorem few_any (a : Option Addr) (n c : Nat) (l : List NoteV) (w : World) (hr : RdNs w a n c l) :
    Calls Tryz.prog 19 #[.slice a n c] w fun e w' => e = .returned (.bool (fewB l)) ∧ w = w' := by
  have I43 : (Tryz.prog.info? 51).map (·.size) = some 19 := by kernel_rfl
  have hL := Lib.hid hr.1
  have hn63 : n ≤ 9223372036854775807 := by have h1 := hr.2.1; have h2 := hr.2.2.1; unfold maxLen at h2; omega
  have R1 := Lib.hid hr
  clear hr
  have NB : Hid (fewN n = true → fewB l = false) := Lib.hid (fun h => by rw [fewB, hL.out, h]; rfl)
  have SB : Hid (∀ k (x : NoteV), l[k]? = some x → fewS x.strokes.length = true → fewB l = false) := Lib.hid (fun k x hx h => fewB_bad hx h)
  have GB : Hid (fewN n = false → (∀ k (x : NoteV), k < n → l[k]? = some x → fewS x.strokes.length = false) → fewB l = true) := Lib.hid (fun h1 h2 => fewB_good (by rw [hL.out]; exact h1) (by rw [hL.out]; exact h2))
  generalize fewB l = q at *
  cases n1 : decide ((60 : Int) < (n : Int))
  · cases n3 : decide ((800 : Int) < (n : Int))
    · have HN0 : Hid (fewN n = false) := Lib.hid (by unfold fewN; rw [n1, n3]; rfl)
      go_enter Tryz.func19, Tryz.ntmps19
      go_wp2_with fail
      clear n1 n3
      go_loopw [3] (fun i wr => ∃ k : Nat, i = .int .i64 k ∧ k ≤ n ∧ Hid (∀ j y, j < k → l[j]? = some y → fewS y.strokes.length = false) ∧ w = wr) (fun i _ => n - (intOf i).toNat)
      case atStart => exact ⟨0, rfl, Nat.zero_le _, Lib.hid (fun j y h => by omega), rfl⟩
      case round =>
        obtain ⟨k, rfl, hk, HA, rfl⟩ := hrel
        by_cases hlt : k < n
        · have t0 : decide ((k : Int) < (n : Int)) = true := by simp; omega
          obtain ⟨x, hx⟩ : ∃ x, l[k]? = some x := ⟨_, List.getElem?_eq_getElem (by rw [hL.out]; exact hlt)⟩
          have HX := Lib.hid hx
          obtain ⟨b, off, rfl, hall⟩ := R1.out.at (by omega)
          obtain ⟨sa, sc, hrange, hrd⟩ := hall k x hx
          obtain ⟨o, ho⟩ : ∃ o, Hid (off + k * 19 = o) := ⟨_, Lib.hid rfl⟩
          rw [ho.out] at hrange
          have hix := fun W => idx_off (W := W) (c := c) (b := b) Tryz.underlying43 I43 hlt ho.out
          have c15 := hrange 15 (.slice sa x.strokes.length sc) rfl
          have hk64 : (k : Int) + 1 ≤ 9223372036854775807 := by omega
          clear hall hx hrange hrd
          cases s1 : decide ((20 : Int) < (x.strokes.length : Int))
          · cases s3 : decide ((400 : Int) < (x.strokes.length : Int))
            · have GS : Hid (fewS x.strokes.length = false) := Lib.hid (by unfold fewS; rw [s1, s3]; rfl)
              go_wp2_with fail
              go_roundw
              case rel => exact ⟨k + 1, by go_num, by omega, Lib.hid (fun j y hj hy => by
                rcases Nat.lt_or_ge j k with h | h
                · exact HA.out j y h hy
                · have e : j = k := by omega
                  subst e
                  rw [HX.out] at hy
                  cases hy
                  exact GS.out), trivial⟩
              case measure => simp [intOf]; omega
            · have GR := Lib.hid (SB.out k x HX.out (by unfold fewS; rw [s1, s3]; rfl))
              go_wp2_with fail
              go_ret
              exact ⟨by rw [GR.out]; rfl, rfl⟩
          · cases s2 : decide ((x.strokes.length : Int) ≤ 200)
            · cases s3 : decide ((400 : Int) < (x.strokes.length : Int))
              · have GS : Hid (fewS x.strokes.length = false) := Lib.hid (by unfold fewS; rw [s1, s2, s3]; rfl)
                go_wp2_with fail
                go_roundw
                case rel => exact ⟨k + 1, by go_num, by omega, Lib.hid (fun j y hj hy => by
                  rcases Nat.lt_or_ge j k with h | h
                  · exact HA.out j y h hy
                  · have e : j = k := by omega
                    subst e
                    rw [HX.out] at hy
                    cases hy
                    exact GS.out), trivial⟩
                case measure => simp [intOf]; omega
              · have GR := Lib.hid (SB.out k x HX.out (by unfold fewS; rw [s1, s2, s3]; rfl))
                go_wp2_with fail
                go_ret
                exact ⟨by rw [GR.out]; rfl, rfl⟩
            · have GR := Lib.hid (SB.out k x HX.out (by unfold fewS; rw [s1, s2]; rfl))
              go_wp2_with fail
              go_ret
              exact ⟨by rw [GR.out]; rfl, rfl⟩
        · have t0 : decide ((k : Int) < (n : Int)) = false := by simp; omega
          have GR := Lib.hid (GB.out HN0.out (fun j y hj hy => HA.out j y (by omega) hy))
          go_wp2_with fail
          go_ret
          exact ⟨by rw [GR.out]; rfl, rfl⟩
    · have GR := Lib.hid (NB.out (by unfold fewN; rw [n1, n3]; rfl))
      go_enter Tryz.func19, Tryz.ntmps19
      go_wp2_with fail
      go_ret
      exact ⟨by rw [GR.out]; rfl, rfl⟩
  · cases n2 : decide ((n : Int) ≤ 400)
    · cases n3 : decide ((800 : Int) < (n : Int))
      · have HN0 : Hid (fewN n = false) := Lib.hid (by unfold fewN; rw [n1, n2, n3]; rfl)
        go_enter Tryz.func19, Tryz.ntmps19
        go_wp2_with fail
        clear n1 n2 n3
        go_loopw [3] (fun i wr => ∃ k : Nat, i = .int .i64 k ∧ k ≤ n ∧ Hid (∀ j y, j < k → l[j]? = some y → fewS y.strokes.length = false) ∧ w = wr) (fun i _ => n - (intOf i).toNat)
        case atStart => exact ⟨0, rfl, Nat.zero_le _, Lib.hid (fun j y h => by omega), rfl⟩
        case round =>
          obtain ⟨k, rfl, hk, HA, rfl⟩ := hrel
          by_cases hlt : k < n
          · have t0 : decide ((k : Int) < (n : Int)) = true := by simp; omega
            obtain ⟨x, hx⟩ : ∃ x, l[k]? = some x := ⟨_, List.getElem?_eq_getElem (by rw [hL.out]; exact hlt)⟩
            have HX := Lib.hid hx
            obtain ⟨b, off, rfl, hall⟩ := R1.out.at (by omega)
            obtain ⟨sa, sc, hrange, hrd⟩ := hall k x hx
            obtain ⟨o, ho⟩ : ∃ o, Hid (off + k * 19 = o) := ⟨_, Lib.hid rfl⟩
            rw [ho.out] at hrange
            have hix := fun W => idx_off (W := W) (c := c) (b := b) Tryz.underlying43 I43 hlt ho.out
            have c15 := hrange 15 (.slice sa x.strokes.length sc) rfl
            have hk64 : (k : Int) + 1 ≤ 9223372036854775807 := by omega
            clear hall hx hrange hrd
            cases s1 : decide ((20 : Int) < (x.strokes.length : Int))
            · cases s3 : decide ((400 : Int) < (x.strokes.length : Int))
              · have GS : Hid (fewS x.strokes.length = false) := Lib.hid (by unfold fewS; rw [s1, s3]; rfl)
                go_wp2_with fail
                go_roundw
                case rel => exact ⟨k + 1, by go_num, by omega, Lib.hid (fun j y hj hy => by
                  rcases Nat.lt_or_ge j k with h | h
                  · exact HA.out j y h hy
                  · have e : j = k := by omega
                    subst e
                    rw [HX.out] at hy
                    cases hy
                    exact GS.out), trivial⟩
                case measure => simp [intOf]; omega
              · have GR := Lib.hid (SB.out k x HX.out (by unfold fewS; rw [s1, s3]; rfl))
                go_wp2_with fail
                go_ret
                exact ⟨by rw [GR.out]; rfl, rfl⟩
            · cases s2 : decide ((x.strokes.length : Int) ≤ 200)
              · cases s3 : decide ((400 : Int) < (x.strokes.length : Int))
                · have GS : Hid (fewS x.strokes.length = false) := Lib.hid (by unfold fewS; rw [s1, s2, s3]; rfl)
                  go_wp2_with fail
                  go_roundw
                  case rel => exact ⟨k + 1, by go_num, by omega, Lib.hid (fun j y hj hy => by
                    rcases Nat.lt_or_ge j k with h | h
                    · exact HA.out j y h hy
                    · have e : j = k := by omega
                      subst e
                      rw [HX.out] at hy
                      cases hy
                      exact GS.out), trivial⟩
                  case measure => simp [intOf]; omega
                · have GR := Lib.hid (SB.out k x HX.out (by unfold fewS; rw [s1, s2, s3]; rfl))
                  go_wp2_with fail
                  go_ret
                  exact ⟨by rw [GR.out]; rfl, rfl⟩
              · have GR := Lib.hid (SB.out k x HX.out (by unfold fewS; rw [s1, s2]; rfl))
                go_wp2_with fail
                go_ret
                exact ⟨by rw [GR.out]; rfl, rfl⟩
          · have t0 : decide ((k : Int) < (n : Int)) = false := by simp; omega
            have GR := Lib.hid (GB.out HN0.out (fun j y hj hy => HA.out j y (by omega) hy))
            go_wp2_with fail
            go_ret
            exact ⟨by rw [GR.out]; rfl, rfl⟩
      · have GR := Lib.hid (NB.out (by unfold fewN; rw [n1, n2, n3]; rfl))
        go_enter Tryz.func19, Tryz.ntmps19
        go_wp2_with fail
        go_ret
        exact ⟨by rw [GR.out]; rfl, rfl⟩
    · have GR := Lib.hid (NB.out (by unfold fewN; rw [n1, n2]; rfl))
      go_enter Tryz.func19, Tryz.ntmps19
      go_wp2_with fail
      go_ret
      exact ⟨by rw [GR.out]; rfl, rfl⟩
end Go.Proofs.YtpjiakgfegnmcaaGreat
