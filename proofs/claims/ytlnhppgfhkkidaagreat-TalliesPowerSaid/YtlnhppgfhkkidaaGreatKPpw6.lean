/- Parts of the proof, in this order: The program's CheckSet; Notes as they lie in memory; the program's setOf; Stores of whole structs into known blocks; maps.DeleteFunc by a clock. -/
import Derived.Deep.MidRow
import Derived.Test.YtlnhppgfhkkidaaGreatKPpw5
set_option linter.unusedSimpArgs false
set_option linter.unusedVariables false
open List renaming getElem_toArray → lq0, getElem_cons_succ → lq1, getElem_cons_zero → lq2, setIfInBounds_toArray → lq3, set_cons_zero → lq4, set_cons_succ → lq5
namespace Go.Proofs.YtlnhppgfhkkidaaGreat
set_option linter.unusedSimpArgs false
open Go.RowKit

def RdNs (W : World) (a : Option Addr) (n c : Nat) (l : List NoteV) : Prop :=
  l.length = n ∧ n ≤ c ∧ c ≤ maxLen ∧ (c = 0 ∨ ∃ b off, a = some ⟨b, off, none⟩ ∧ ∀ i x, l[i]? = some x → ∃ sa sc, W.rangeAt b (off + i * 19) (x.cells sa sc) ∧ RdI W sa x.strokes.length sc x.strokes)
theorem rangeAt_below {W W' : World} {b o : Nat} {cs : List Value} (h : W.rangeAt b o cs) (hb : Below W.heap.size W W') : W'.rangeAt b o cs := fun j v hv => by
  have h1 := h j v hv
  exact (hb.cell (p := ⟨b, o + j, none⟩) (World.block_lt_of_cell? W _ h1)).trans h1
theorem RdNs.below {W W' : World} {a : Option Addr} {n c : Nat} {l : List NoteV} (h : RdNs W a n c l) (hb : Below W.heap.size W W') : RdNs W' a n c l := by
  refine ⟨h.1, h.2.1, h.2.2.1, h.2.2.2.imp id ?_⟩
  rintro ⟨b, off, rfl, h4⟩
  refine ⟨b, off, rfl, fun i x hx => ?_⟩
  obtain ⟨sa, sc, h5, h6⟩ := h4 i x hx
  exact ⟨sa, sc, rangeAt_below h5 hb, h6.below hb⟩
theorem RdNs.at {W : World} {a : Option Addr} {n c : Nat} {l : List NoteV} (h : RdNs W a n c l) (h0 : 0 < n) : ∃ b off, a = some ⟨b, off, none⟩ ∧ ∀ i x, l[i]? = some x → ∃ sa sc, W.rangeAt b (off + i * 19) (x.cells sa sc) ∧ RdI W sa x.strokes.length sc x.strokes := by
  rcases h.2.2.2 with h4 | h4
  · have := h.2.1; omega
  · exact h4
def setAt (f : FrV) (l : List NoteV) (i : Nat) : Option Int := match l[i]? with
  | none => none
  | some x => if formedB f x = false then some 80 else match (if i = 0 then none else l[i - 1]?) with
    | none => none
    | some y => if namesC y.house y.num x.house x.num = 0 then some 81 else if 0 < namesC y.house y.num x.house x.num then some 1 else none
def setGo (f : FrV) (l : List NoteV) : Nat → Nat → Int × Nat
  | 0, _ => (0, 0)
  | k + 1, i => match setAt f l i with
    | some e => (e, i)
    | none => setGo f l k (i + 1)
def checkSetP (f : FrV) (l : List NoteV) : Int × Nat := if f.valid = false then (1, 0) else if 400 < l.length then (2, 0) else setGo f l l.length 0
theorem setGo_some {f : FrV} {l : List NoteV} {n k : Nat} {e : Int} (hk : k < n) (h : setAt f l k = some e) : setGo f l (n - k) k = (e, k) := by
  obtain ⟨m, hm⟩ : ∃ m, n - k = m + 1 := ⟨n - k - 1, by omega⟩
  rw [hm, setGo, h]
theorem setGo_none {f : FrV} {l : List NoteV} {n k : Nat} (hk : k < n) (h : setAt f l k = none) : setGo f l (n - k) k = setGo f l (n - (k + 1)) (k + 1) := by
  obtain ⟨m, hm⟩ : ∃ m, n - k = m + 1 := ⟨n - k - 1, by omega⟩
  rw [hm, setGo, h, show n - (k + 1) = m by omega]
section
attribute [local go_sem] noteA_0
set_option maxHeartbeats 8000000 in
set_option maxRecDepth 100000 in
theorem checkSet_any (f : FrV) (a : Option Addr) (n c : Nat) (l : List NoteV) (w : World) (hr : RdNs w a n c l) :
    Calls Tryz.prog 174 #[f.val, .slice a n c] w fun e w' => e = .returned (.tuple #[.int .i64 (checkSetP f l).1, .int .i64 (checkSetP f l).2]) ∧ Below w.heap.size w w' := by
  have I43 := Lib.hid (show ∀ (m : NoteV) (a : Option Addr) (c : Nat), (Tryz.prog.info? 47).map (·.size) = some (noteA m a c).size from fun m a c => by kernel_rfl)
  have hL := Lib.hid hr.1
  have hn63 : n ≤ 9223372036854775807 := by have h1 := hr.2.1; have h2 := hr.2.2.1; unfold maxLen at h2; omega
  have e6 := heap_at (w.alloc (.cells #[.int .i64 f.rings, .int .i64 f.sectors, .int .i64 f.wide] 23)) (.cells #[.int .i64 f.rings, .int .i64 f.sectors, .int .i64 f.wide] 174) (w.heap.size + 1) (by simp)
  have bb : Below w.heap.size w ((w.alloc (.cells #[.int .i64 f.rings, .int .i64 f.sectors, .int .i64 f.wide] 23)).alloc (.cells #[.int .i64 f.rings, .int .i64 f.sectors, .int .i64 f.wide] 174)) := ((Below.refl _ _).alloc (Nat.le_refl _) _).alloc (by simp) _
  have E6 := Lib.hid e6; clear e6
  have BB0 := Lib.hid bb; clear bb
  unfold FrV.val
  go_enter Tryz.func174, Tryz.ntmps174
  go_wp2_with fail
  generalize (w.alloc (.cells #[.int .i64 f.rings, .int .i64 f.sectors, .int .i64 f.wide] 23)).alloc (.cells #[.int .i64 f.rings, .int .i64 f.sectors, .int .i64 f.wide] 174) = W0 at *
  obtain ⟨p, hp⟩ : ∃ p, Hid (w.heap.size = p) := ⟨_, Lib.hid rfl⟩
  obtain ⟨p6, hp6⟩ : ∃ p6, Hid (w.heap.size + 1 = p6) := ⟨_, Lib.hid rfl⟩
  rw [hp6.out] at E6
  rw [hp.out] at BB0
  rw [hp6.out, hp.out]
  refine (valid_any f.rings f.sectors f.wide _).mono ?_
  rintro e w1 ⟨rfl, b1⟩
  have B1 := Lib.hid (BB0.out.trans (b1.mono (by rw [← hp.out]; exact BB0.out.size)))
  have F1 := Lib.hid ((b1.block _ (Array.getElem?_eq_some_iff.1 E6.out).1).trans E6.out)
  clear b1 E6 BB0
  have RX0 := Lib.hid (show ∀ W', Below p w W' → RdNs W' a n c l from fun W' hb => hr.below (by rw [hp.out]; exact hb))
  clear hr
  cases hv : f.valid
  · have HR := Lib.hid (show checkSetP f l = (1, 0) by unfold checkSetP; rw [if_pos hv])
    clear hv
    go_wp2_with fail
    go_returns
    rw [HR.out]
    exact ⟨rfl, by rw [hp.out]; exact B1.out⟩
  · have HV := Lib.hid hv; clear hv
    by_cases h4 : 400 < n
    · have HR := Lib.hid (show checkSetP f l = (2, 0) by unfold checkSetP; rw [if_neg (by rw [HV.out]; decide), if_pos (by rw [hL.out]; exact h4)])
      have t4 : decide ((400 : Int) < (n : Int)) = true := by simp; omega
      go_wp2_with fail
      go_returns
      rw [HR.out]
      exact ⟨rfl, by rw [hp.out]; exact B1.out⟩
    · have HG0 := Lib.hid (show checkSetP f l = setGo f l n 0 by unfold checkSetP; rw [if_neg (by rw [HV.out]; decide), if_neg (by rw [hL.out]; exact h4), hL.out])
      have t4 : decide ((400 : Int) < (n : Int)) = false := by simp; omega
      go_wp2_with fail
      go_loopw [22] (fun i wr => ∃ k : Nat, i = .int .i64 k ∧ k ≤ n ∧ Hid (checkSetP f l = setGo f l (n - k) k) ∧ Hid (Below w.heap.size w wr) ∧ Hid (wr.heap[p6]? = some (.cells #[.int .i64 f.rings, .int .i64 f.sectors, .int .i64 f.wide] 174 (0, 0)))) (fun i _ => n - (intOf i).toNat)
      case atStart => exact ⟨0, rfl, Nat.zero_le _, HG0, by rw [hp.out]; exact B1, F1⟩
      case round =>
        obtain ⟨k, rfl, hk, HG, HB, HF6⟩ := hrel
        rw [hp.out] at HB
        by_cases hlt : k < n
        · obtain ⟨x, hx⟩ : ∃ x, l[k]? = some x := ⟨_, List.getElem?_eq_getElem (by rw [hL.out]; exact hlt)⟩
          have HX := Lib.hid hx
          obtain ⟨b, off, rfl, hall⟩ := (RX0.out _ HB.out).at (by omega)
          obtain ⟨sa, sc, hrange, hrd⟩ := hall k x hx
          have HRA := Lib.hid hrange
          have RX := Lib.hid (show ∀ W', Below wr.heap.size wr W' → RdI W' sa x.strokes.length sc x.strokes from fun W' hb => hrd.below hb)
          have HALL := Lib.hid hall
          clear hall hx hrange hrd
          have hk63 : (k : Int) ≤ 9223372036854775807 := by omega
          go_upto_region 9 with (first
            | (refine wpList_load_mid rfl 47 _ rfl b (off + k * 19) rfl (x.cells sa sc) _ HRA.out Tryz.underlying47 rfl (size43 x sa sc) ?_)
            | (refine wpList_store_newp wr rfl 47 _ _ rfl wr.heap.size rfl _ (noteA x sa sc) rfl rfl (I43.out _ _ _) rfl (noteA_one x sa sc) ?_))
          have hbt : Below wr.heap.size wr (wr.alloc (.cells (noteA x sa sc) 47)) := (Below.refl _ _).alloc (Nat.le_refl _) _
          have TT := Lib.hid (heap_last wr (.cells (noteA x sa sc) 47))
          have FF := Lib.hid ((hbt.block _ (Array.getElem?_eq_some_iff.1 HF6.out).1).trans HF6.out)
          have BB := Lib.hid (HB.out.trans (hbt.mono (by rw [← hp.out]; exact HB.out.size)))
          have BW := Lib.hid hbt; clear hbt
          obtain ⟨p8, hp8⟩ : ∃ p8, Hid (wr.heap.size = p8) := ⟨_, Lib.hid rfl⟩
          rw [hp8.out] at TT ⊢
          generalize wr.alloc (.cells (noteA x sa sc) 47) = wt at *
          by_cases hk0 : k = 0
          · have HK0 := Lib.hid hk0
            have k0a : decide (0 < k) = false := by simp; omega
            clear hk0
            go_upto_region 12 with fail
            have c0 := cell_of FF.out 0 _ rfl
            have c1 := cell_of FF.out 1 _ rfl
            have c2 := cell_of FF.out 2 _ rfl
            go_wp2_with (refine wpList_load_row rfl 47 _ rfl p8 rfl 47 (noteA x sa sc) (0, 0) _ TT.out Tryz.underlying47 rfl (I43.out _ _ _) ?_)
            refine (formed_any f x sa sc _ HV.out (RX.out _ BW.out)).mono ?_
            rintro e w5 ⟨rfl, b5⟩
            have B5 := Lib.hid (BB.out.trans (b5.mono (by rw [← hp.out]; exact BB.out.size)))
            have F5 := Lib.hid ((b5.block _ (Array.getElem?_eq_some_iff.1 FF.out).1).trans FF.out)
            clear b5 c0 c1 c2
            cases hf : formedB f x
            · have HR := Lib.hid (show checkSetP f l = (80, k) by rw [HG.out]; exact setGo_some hlt (by unfold setAt; rw [HX.out]; simp only; rw [if_pos hf]))
              clear hf
              go_wp2_with fail
              go_returns
              rw [HR.out]
              exact ⟨rfl, by rw [hp.out]; exact B5.out⟩
            · have HR := Lib.hid (show setGo f l (n - k) k = setGo f l (n - (k + 1)) (k + 1) from setGo_none hlt (by unfold setAt; rw [HX.out]; simp only; rw [if_neg (by rw [hf]; decide), if_pos HK0.out]))
              clear hf
              go_wp2_with fail
              go_roundw
              case rel => exact ⟨k + 1, by go_num, by omega, Lib.hid (by rw [← HR.out]; exact HG.out), by rw [hp.out]; exact B5, F5⟩
              case measure => simp [intOf]; omega
          · have HK0 := Lib.hid hk0
            obtain ⟨j, rfl⟩ : ∃ j, k = j + 1 := ⟨k - 1, by omega⟩
            have k0a : decide (0 < j + 1) = true := by simp
            clear hk0
            obtain ⟨y, hy⟩ : ∃ y, l[j]? = some y := ⟨_, List.getElem?_eq_getElem (by rw [hL.out]; omega)⟩
            obtain ⟨ya, yc, hyr, _⟩ := HALL.out j y hy
            have HYR := Lib.hid (rangeAt_below hyr BW.out)
            have HY := Lib.hid (show l[j + 1 - 1]? = some y by rw [Nat.add_sub_cancel]; exact hy)
            have hjn : j < n := by omega
            have hwj : IntKind.i64.wrap (j : Int) = (j : Int) := by first | (rw [IntKind.wrap_i64]; omega) | (rw [IntKind.wrap_i64]; unfold wrap64; omega)
            clear hy hyr
            go_upto_region 11 with fail
            have hS0 : Below wt.heap.size wt wt.drew := (Below.refl wt.heap.size wt).drew
            have HS0 := Lib.hid hS0
            refine wp_region_noPanic ?_
            refine wp_region_held_drew (S := fun w' => Below wt.heap.size wt w') (by kernel_rfl) hS0 (fun hHeld => ?_)
            clear hS0
            refine wpAnyH_take (i := 0) (v := .slice (some ⟨b, off, none⟩) n c) rfl (by kernel_rfl) (by kernel_rfl) (by kernel_rfl) (fun _ _ _ h => h) (Or.inl ⟨by rfl, by intro W _; go_simp⟩) (by assumption) ?_
            try simp only [Act.put, lq3, lq4, lq5]
            refine wpAnyH_take (i := 1) (v := .int .i64 ((j : Int) + 1)) rfl (by kernel_rfl) (by kernel_rfl) (by kernel_rfl) (fun _ _ _ h => h) (Or.inl ⟨by rfl, by intro W _; go_simp⟩) (by assumption) ?_
            try simp only [Act.put, lq3, lq4, lq5]
            refine wpAnyH_take (i := 2) (v := .int .i64 (j : Int)) rfl (by kernel_rfl) (by kernel_rfl) (by kernel_rfl) (fun _ _ _ h => h) (Or.inl ⟨by rfl, by intro W _; go_simp⟩) (by assumption) ?_
            try simp only [Act.put, lq3, lq4, lq5]
            refine wpAnyH_take (i := 3) (v := .pointer (some ⟨b, off + j * 19, none⟩)) rfl (by kernel_rfl) (by kernel_rfl) (by kernel_rfl) (fun _ _ _ h => h) (Or.inl ⟨by rfl, by intro W _; go_simp⟩) (by assumption) ?_
            try simp only [Act.put, lq3, lq4, lq5]
            refine wpAnyH_take (i := 4) (v := .agg (y.cells ya yc).toArray) rfl (by kernel_rfl) (by kernel_rfl) (by kernel_rfl) (fun _ _ _ h => h) (yieldsIf_load_mid (by rfl) 47 _ rfl b (off + j * 19) rfl (y.cells ya yc) _ (fun W h => rangeAt_below HYR.out h) Tryz.underlying47 rfl (size43 y ya yc)) (by assumption) ?_
            try simp only [Act.put, lq3, lq4, lq5]
            refine wpAnyH_take (i := 6) (v := .agg (noteA x sa sc)) rfl (by kernel_rfl) (by kernel_rfl) (by kernel_rfl) (fun _ _ _ h => h) (yields_row (by rfl) 47 _ rfl p8 rfl _ 47 (0, 0) _ (fun W h => (h.block _ (Array.getElem?_eq_some_iff.1 TT.out).1).trans TT.out) Tryz.underlying47 rfl (I43.out _ _ _)) (by assumption) ?_
            try simp only [Act.put, lq3, lq4, lq5]
            refine wpAnyH_ready (rs := [5]) (by kernel_rfl) (by simp) ?_
            refine AllReadyH.cons rfl (fun K hK => ?_) AllReadyH.nil
            go_simp
            go_at_call 167
            refine (nameOf_any y ya yc _).mono ?_
            rintro e v1 ⟨rfl, b1⟩
            have V1 := Lib.hid (HS0.out.trans (b1.mono HS0.out.size)); clear b1
            dsimp only
            refine hK.out _ _ V1.out (fun hHeld => ?_)
            clear hK K
            try simp only [Act.put, lq3, lq4, lq5]
            refine wpAnyH_ready (rs := [7]) (by kernel_rfl) (by simp) ?_
            refine AllReadyH.cons rfl (fun K hK => ?_) AllReadyH.nil
            go_simp
            go_at_call 167
            refine (nameOf_any x sa sc _).mono ?_
            rintro e v2 ⟨rfl, b1⟩
            have V2 := Lib.hid (V1.out.trans (b1.mono V1.out.size)); clear b1
            dsimp only
            refine hK.out _ _ V2.out (fun hHeld => ?_)
            clear hK K
            try simp only [Act.put, lq3, lq4, lq5]
            obtain ⟨o, HO⟩ : ∃ o, Hid (o = namesC y.house y.num x.house x.num) := ⟨_, Lib.hid rfl⟩
            refine wpAnyH_ready (rs := [8]) (by kernel_rfl) (by simp) ?_
            refine AllReadyH.cons rfl (fun K hK => ?_) AllReadyH.nil
            go_simp
            go_at_call 124
            refine (compareNames_any y.house y.num x.house x.num _).mono ?_
            rintro e v3 ⟨rfl, b1⟩
            have V3 := Lib.hid (V2.out.trans (b1.mono V2.out.size)); clear b1
            rw [← HO.out]
            dsimp only
            refine hK.out _ _ V3.out (fun hHeld => ?_)
            clear hK K
            try simp only [Act.put, lq3, lq4, lq5]
            refine wpAnyH_take (i := 9) (oi := { dst := some 9, op := .assign (.tmp 37), type := 3, pos := "notes.go:185", after := _, guard := none }) (v := .int .i64 o) rfl (by kernel_rfl) (by kernel_rfl) (by kernel_rfl) (fun _ _ _ h => h) (Or.inl ⟨by rfl, by intro W _; go_simp⟩) (by assumption) ?_
            try simp only [Act.put, lq3, lq4, lq5]
            refine wpAnyH_done (by kernel_rfl) ?_ _
            refine NoPanic.normal ?_
            replace TT := Lib.hid ((V3.out.block _ (Array.getElem?_eq_some_iff.1 TT.out).1).trans TT.out)
            replace FF := Lib.hid ((V3.out.block _ (Array.getElem?_eq_some_iff.1 FF.out).1).trans FF.out)
            replace BB := Lib.hid (BB.out.trans (V3.out.mono (by rw [← hp.out]; exact BB.out.size)))
            replace BW := Lib.hid (BW.out.trans (V3.out.mono BW.out.size))
            clear V1 V2 V3 HS0 HYR
            go_upto_region 12 with fail
            have c0 := cell_of FF.out 0 _ rfl
            have c1 := cell_of FF.out 1 _ rfl
            have c2 := cell_of FF.out 2 _ rfl
            go_wp2_with (refine wpList_load_row rfl 47 _ rfl p8 rfl 47 (noteA x sa sc) (0, 0) _ TT.out Tryz.underlying47 rfl (I43.out _ _ _) ?_)
            refine (formed_any f x sa sc _ HV.out (RX.out _ BW.out)).mono ?_
            rintro e w5 ⟨rfl, b5⟩
            have B5 := Lib.hid (BB.out.trans (b5.mono (by rw [← hp.out]; exact BB.out.size)))
            have F5 := Lib.hid ((b5.block _ (Array.getElem?_eq_some_iff.1 FF.out).1).trans FF.out)
            clear b5 c0 c1 c2
            cases hf : formedB f x
            · have HR := Lib.hid (show checkSetP f l = (80, j + 1) by rw [HG.out]; exact setGo_some hlt (by unfold setAt; rw [HX.out]; simp only; rw [if_pos hf]))
              clear hf
              go_wp2_with fail
              go_returns
              rw [HR.out]
              exact ⟨rfl, by rw [hp.out]; exact B5.out⟩
            · have HF := Lib.hid hf; clear hf
              by_cases ho : o = 0
              · have ho1 : (o == 0) = true := by simp [ho]
                have HR := Lib.hid (show checkSetP f l = (81, j + 1) by rw [HG.out]; exact setGo_some hlt (by unfold setAt; rw [HX.out]; simp only; rw [if_neg (by rw [HF.out]; decide), if_neg HK0.out, HY.out]; simp only; rw [← HO.out, if_pos ho]))
                clear ho
                go_wp2_with fail
                go_returns
                rw [HR.out]
                exact ⟨rfl, by rw [hp.out]; exact B5.out⟩
              · have ho1 : (o == 0) = false := by simp [ho]
                by_cases hp2 : 0 < o
                · have ho2 : decide (0 < o) = true := by simp [hp2]
                  have HR := Lib.hid (show checkSetP f l = (1, j + 1) by rw [HG.out]; exact setGo_some hlt (by unfold setAt; rw [HX.out]; simp only; rw [if_neg (by rw [HF.out]; decide), if_neg HK0.out, HY.out]; simp only; rw [← HO.out, if_neg ho, if_pos hp2]))
                  clear ho hp2
                  go_wp2_with fail
                  go_returns
                  rw [HR.out]
                  exact ⟨rfl, by rw [hp.out]; exact B5.out⟩
                · have ho2 : decide (0 < o) = false := by simp; omega
                  have HR := Lib.hid (show setGo f l (n - (j + 1)) (j + 1) = setGo f l (n - (j + 1 + 1)) (j + 1 + 1) from setGo_none hlt (by unfold setAt; rw [HX.out]; simp only; rw [if_neg (by rw [HF.out]; decide), if_neg HK0.out, HY.out]; simp only; rw [← HO.out, if_neg ho, if_neg hp2]))
                  clear ho hp2
                  go_wp2_with fail
                  go_roundw
                  case rel => exact ⟨j + 1 + 1, by go_num, by omega, Lib.hid (by rw [← HR.out]; exact HG.out), by rw [hp.out]; exact B5, F5⟩
                  case measure => simp [intOf]; omega
        · have hkn : k = n := by omega
          subst hkn
          have HR := Lib.hid (show checkSetP f l = (0, 0) by rw [HG.out, Nat.sub_self]; rfl)
          go_wp2_with fail
          go_returns
          rw [HR.out]
          exact ⟨rfl, by rw [hp.out]; exact HB.out⟩
end
end Go.Proofs.YtlnhppgfhkkidaaGreat
namespace Go.Proofs.YtlnhppgfhkkidaaGreat
set_option linter.unusedSimpArgs false
open Go.RowKit

structure LN where
  n : NoteV
  sa : Option Addr
  sc : Nat
def LN.val (x : LN) : Value := .agg (noteA x.n x.sa x.sc)
def LN.nm (x : LN) : Nm := (x.n.house, x.n.num)
def LN.ok (W : World) (x : LN) : Prop := RdI W x.sa x.n.strokes.length x.sc x.n.strokes
theorem LN.ok.below {W W' : World} {x : LN} (h : x.ok W) (hb : Below W.heap.size W W') : x.ok W' := RdI.below h hb
def RdLs (W : World) (a : Option Addr) (n c : Nat) (xs : List LN) : Prop :=
  xs.length = n ∧ n ≤ c ∧ c ≤ maxLen ∧ (c = 0 ∨ ∃ b off, a = some ⟨b, off, none⟩ ∧ ∀ i x, xs[i]? = some x → W.rangeAt b (off + i * 19) (x.n.cells x.sa x.sc) ∧ x.ok W)
theorem RdLs.below {W W' : World} {a : Option Addr} {n c : Nat} {l : List LN} (h : RdLs W a n c l) (hb : Below W.heap.size W W') : RdLs W' a n c l := by
  refine ⟨h.1, h.2.1, h.2.2.1, h.2.2.2.imp id ?_⟩
  rintro ⟨b, off, rfl, h4⟩
  refine ⟨b, off, rfl, fun i x hx => ?_⟩
  obtain ⟨h5, h6⟩ := h4 i x hx
  exact ⟨rangeAt_below h5 hb, h6.below hb⟩
theorem RdLs.at {W : World} {a : Option Addr} {n c : Nat} {l : List LN} (h : RdLs W a n c l) (h0 : 0 < n) : ∃ b off, a = some ⟨b, off, none⟩ ∧ ∀ i x, l[i]? = some x → W.rangeAt b (off + i * 19) (x.n.cells x.sa x.sc) ∧ x.ok W := by
  rcases h.2.2.2 with h4 | h4
  · have := h.2.1; omega
  · exact h4
theorem choose_ln : ∀ (l : List NoteV) (P : Nat → LN → Prop), (∀ i x, l[i]? = some x → ∃ y : LN, y.n = x ∧ P i y) → ∃ xs : List LN, xs.map LN.n = l ∧ ∀ i y, xs[i]? = some y → P i y
  | [], _, _ => ⟨[], rfl, by simp⟩
  | x :: l, P, h => by
    obtain ⟨y, h1, h2⟩ := h 0 x rfl
    obtain ⟨xs, h3, h4⟩ := choose_ln l (fun i => P (i + 1)) (fun i x hx => h (i + 1) x hx)
    refine ⟨y :: xs, by simp [h1, h3], fun i z hz => ?_⟩
    cases i with
    | zero => simp at hz; exact hz ▸ h2
    | succ i => exact h4 i z hz
theorem RdNs.choose {W : World} {a : Option Addr} {n c : Nat} {l : List NoteV} (h : RdNs W a n c l) : ∃ xs : List LN, xs.map LN.n = l ∧ RdLs W a n c xs := by
  obtain ⟨h1, h2, h3, h4⟩ := h
  rcases h4 with h4 | ⟨b, off, rfl, h4⟩
  · have : l = [] := List.eq_nil_of_length_eq_zero (by omega)
    subst this
    exact ⟨[], rfl, h1, h2, h3, .inl h4⟩
  · obtain ⟨xs, h5, h6⟩ := choose_ln l (fun i y => W.rangeAt b (off + i * 19) (y.n.cells y.sa y.sc) ∧ y.ok W) (fun i x hx => by
      obtain ⟨sa, sc, h7, h8⟩ := h4 i x hx
      exact ⟨⟨x, sa, sc⟩, rfl, h7, h8⟩)
    exact ⟨xs, h5, by rw [← h1, ← h5]; simp, h2, h3, .inr ⟨b, off, rfl, h6⟩⟩
def setF (xs : List LN) : Nm → Option LN := xs.foldl (fun f x => updF f x.nm x) (fun _ => none)
theorem setF_snoc (xs : List LN) (x : LN) : setF (xs ++ [x]) = updF (setF xs) x.nm x := by simp [setF, List.foldl_append]
theorem take_snoc {α : Type} {xs : List α} {k : Nat} {x : α} (h : xs[k]? = some x) : xs.take (k + 1) = xs.take k ++ [x] := by
  rw [List.take_add_one, h]; rfl
def SetEnd (f : FrV) (l : List NoteV) (w : World) (e : Ending) (w' : World) : Prop :=
  ((checkSetP f l).1 ≠ 0 ∧ e = .returned (.tuple #[.map none, .bool false])) ∨
  ((checkSetP f l).1 = 0 ∧ ∃ xs b, e = .returned (.tuple #[.map (some b), .bool true]) ∧ xs.map LN.n = l ∧ (∀ x ∈ xs, x.ok w') ∧ MapF LN.val w' b l.length (setF xs) ∧ w.heap.size ≤ b)
section
attribute [local go_sem] noteA_0
set_option maxHeartbeats 4000000 in
set_option maxRecDepth 100000 in
theorem setOf_any (f : FrV) (a : Option Addr) (n c : Nat) (l : List NoteV) (w : World) (hr : RdNs w a n c l) (hok : ∀ x ∈ l, x.Ok) :
    Calls Tryz.prog 121 #[f.val, .slice a n c] w fun e w' => SetEnd f l w e w' ∧ Below w.heap.size w w' := by
  have I43 := Lib.hid (show ∀ (m : NoteV) (a : Option Addr) (c : Nat), (Tryz.prog.info? 47).map (·.size) = some (noteA m a c).size from fun m a c => by kernel_rfl)
  obtain ⟨xs, hxs, hR⟩ := hr.choose
  have HXS := Lib.hid hxs
  have HOK := Lib.hid (show ∀ x ∈ xs, nmOk x.nm from fun x hx => by
    have := hok x.n (by rw [← hxs]; exact List.mem_map_of_mem hx)
    exact ⟨this.house, this.num⟩)
  have HLen := Lib.hid (show l.length = n from hr.1)
  have HL := Lib.hid hR.1
  have HN := Lib.hid (show n ≤ maxLen by have := hr.2.1; have := hr.2.2.1; omega)
  have hn63 : n ≤ 9223372036854775807 := by have h1 := HN.out; unfold maxLen at h1; omega
  have RX0 := Lib.hid (show ∀ W', Below w.heap.size w W' → RdLs W' a n c xs from fun W' hb => hR.below hb)
  have CS := Lib.hid (fun W (hb : Below w.heap.size w W) => checkSet_any f a n c l W (hr.below hb))
  unfold FrV.val at CS
  have SE0 := Lib.hid (show ∀ e w', (checkSetP f l).1 ≠ 0 → e = .returned (.tuple #[.map none, .bool false]) → SetEnd f l w e w' from fun e w' h1 h2 => .inl ⟨h1, h2⟩)
  have SE1 := Lib.hid (show ∀ e w' b, (checkSetP f l).1 = 0 → e = .returned (.tuple #[.map (some b), .bool true]) → (∀ x ∈ xs, x.ok w') → MapF LN.val w' b n (setF xs) → w.heap.size ≤ b → SetEnd f l w e w' from fun e w' b h1 h2 h3 h4 h5 => .inr ⟨h1, xs, b, h2, hxs, h3, by rw [HLen.out]; exact h4, h5⟩)
  clear hxs hR hr hok
  obtain ⟨z, HZ⟩ : ∃ z, Hid ((checkSetP f l).1 = z) := ⟨_, Lib.hid rfl⟩
  obtain ⟨y, HY⟩ : ∃ y, Hid ((checkSetP f l).2 = y) := ⟨_, Lib.hid rfl⟩
  rw [HZ.out, HY.out] at CS
  rw [HZ.out] at SE0 SE1
  unfold FrV.val
  have bb := (Below.refl w.heap.size w).alloc (Nat.le_refl _) (.cells #[.int .i64 f.rings, .int .i64 f.sectors, .int .i64 f.wide] 23)
  have BB := Lib.hid bb; clear bb
  go_enter Tryz.func121, Tryz.ntmps121
  go_wp2_with fail
  refine (CS.out _ BB.out).mono ?_
  rintro e w1 ⟨rfl, b1⟩
  have B1 := Lib.hid (BB.out.trans (b1.mono BB.out.size)); clear b1
  by_cases h0 : z = 0
  · have t0 : (z != 0) = false := by simp [h0]
    have H0 := Lib.hid h0; clear h0
    have M0 := Lib.hid (MapF.made (enc := LN.val) w1)
    have hmm := @run_makeMap Tryz.prog
    have B2 := Lib.hid (B1.out.alloc B1.out.size (.map #[] 0))
    obtain ⟨b, hb⟩ : ∃ b, Hid (w1.heap.size = b) := ⟨_, Lib.hid rfl⟩
    have HB := Lib.hid (show w.heap.size ≤ b by rw [← hb.out]; exact B1.out.size)
    rw [hb.out] at M0
    go_wp2_with fail
    rw [hb.out]
    clear hmm
    go_loopw [22] (fun i wr => ∃ k : Nat, i = .int .i64 k ∧ k ≤ n ∧ Hid (Below w.heap.size w wr) ∧ Hid (MapF LN.val wr b k (setF (xs.take k)))) (fun i _ => n - (intOf i).toNat)
    case atStart => exact ⟨0, rfl, Nat.zero_le _, B2, M0⟩
    case round =>
      obtain ⟨k, rfl, hk, HBr, HM⟩ := hrel
      by_cases hlt : k < n
      · obtain ⟨x, hx⟩ : ∃ x, xs[k]? = some x := ⟨_, List.getElem?_eq_getElem (by rw [HL.out]; exact hlt)⟩
        have HX := Lib.hid hx
        have HXok := Lib.hid (HOK.out x (List.mem_of_getElem? hx))
        obtain ⟨bs, off, rfl, hall⟩ := (RX0.out _ HBr.out).at (by omega)
        obtain ⟨hrange, _⟩ := hall k x hx
        have HRA := Lib.hid hrange
        clear hall hx hrange
        have hk63 : (k : Int) ≤ 9223372036854775807 := by omega
        go_upto_region 8 with (first
          | (refine wpList_load_mid rfl 47 _ rfl bs (off + k * 19) rfl (x.n.cells x.sa x.sc) _ HRA.out Tryz.underlying47 rfl (size43 x.n x.sa x.sc) ?_)
          | (refine wpList_store_newp wr rfl 47 _ _ rfl wr.heap.size rfl _ (noteA x.n x.sa x.sc) rfl rfl (I43.out _ _ _) rfl (noteA_one x.n x.sa x.sc) ?_))
        have hbt : Below wr.heap.size wr (wr.alloc (.cells (noteA x.n x.sa x.sc) 47)) := (Below.refl _ _).alloc (Nat.le_refl _) _
        have TT := Lib.hid (heap_last wr (.cells (noteA x.n x.sa x.sc) 47))
        have BT := Lib.hid (HBr.out.trans (hbt.mono HBr.out.size))
        have MT := Lib.hid (HM.out.below hbt)
        obtain ⟨p8, hp8⟩ : ∃ p8, Hid (wr.heap.size = p8) := ⟨_, Lib.hid rfl⟩
        have HNE := Lib.hid (show b < p8 by rw [← hp8.out]; exact HM.out.lt)
        rw [hp8.out] at TT ⊢
        generalize wr.alloc (.cells (noteA x.n x.sa x.sc) 47) = wt at *
        clear hbt
        refine wp_region_noPanic ?_
        refine wp_region_held_drew (S := fun w' => w'.heap[p8]? = some (.cells (noteA x.n x.sa x.sc) 47 (0, 0))) (by kernel_rfl) (show wt.drew.heap[p8]? = _ from TT.out) (fun hHeld => ?_)
        refine wpAnyH_take (i := 0) (v := .map (some b)) rfl (by kernel_rfl) (by kernel_rfl) (by kernel_rfl) (fun _ _ _ h => h) (Or.inl ⟨by rfl, by intro W _; go_simp⟩) (by assumption) ?_
        try simp only [Act.put, lq3, lq4, lq5]
        refine wpAnyH_take (i := 1) (v := .agg (noteA x.n x.sa x.sc)) rfl (by kernel_rfl) (by kernel_rfl) (by kernel_rfl) (fun _ _ _ h => h) (yields_row (by rfl) 47 _ rfl p8 rfl _ 47 (0, 0) _ (fun W h => h) Tryz.underlying47 rfl (I43.out _ _ _)) (by assumption) ?_
        try simp only [Act.put, lq3, lq4, lq5]
        refine wpAnyH_take (i := 3) (v := .agg (noteA x.n x.sa x.sc)) rfl (by kernel_rfl) (by kernel_rfl) (by kernel_rfl) (fun _ _ _ h => h) (yields_row (by rfl) 47 _ rfl p8 rfl _ 47 (0, 0) _ (fun W h => h) Tryz.underlying47 rfl (I43.out _ _ _)) (by assumption) ?_
        try simp only [Act.put, lq3, lq4, lq5]
        refine wpAnyH_ready (rs := [2]) (by kernel_rfl) (by simp) ?_
        refine AllReadyH.cons rfl (fun K hK => ?_) AllReadyH.nil
        go_simp
        go_at_call 167
        refine (nameOf_any x.n x.sa x.sc _).mono ?_
        rintro e v1 ⟨rfl, b1⟩
        have b2 : Below wt.heap.size wt v1 := ((Below.refl wt.heap.size wt).drew).trans b1
        have V1 := Lib.hid (BT.out.trans (b2.mono BT.out.size))
        have M1 := Lib.hid (MT.out.below b2)
        have T1 := Lib.hid ((b2.block _ (Array.getElem?_eq_some_iff.1 TT.out).1).trans TT.out)
        clear b1 b2
        dsimp only
        refine hK.out _ _ T1.out (fun hHeld => ?_)
        clear hK K
        try simp only [Act.put, lq3, lq4, lq5]
        refine wpAnyH_ready (rs := [4]) (by kernel_rfl) (by simp) ?_
        refine AllReadyH.cons rfl (fun K hK => ?_) AllReadyH.nil
        have hput := run_put_nm (t := 119) M1.out (by have := HN.out; omega) Tryz.underlying119 x.n.house x.n.num HXok.out x
        obtain ⟨v2, hrun, hm2, ht2⟩ := hput
        have M2 := Lib.hid hm2
        have V2 := Lib.hid (V1.out.grown ht2.grown V1.out.size (fun q hq => by cases hq; exact HB.out))
        have T2 := Lib.hid ((ht2.grown.block p8 (Array.getElem?_eq_some_iff.1 T1.out).1 (fun he => by cases he; exact absurd HNE.out (Nat.lt_irrefl _))).trans T1.out)
        clear hm2 ht2
        unfold LN.val at hrun
        go_simp
        refine hK.out _ _ T2.out (fun hHeld => ?_)
        clear hK K
        try simp only [Act.put, lq3, lq4, lq5]
        refine wpAnyH_done (by kernel_rfl) ?_ _
        refine NoPanic.normal ?_
        go_wp2_with fail
        go_roundw
        case rel => exact ⟨k + 1, by go_num, by omega, V2, Lib.hid (by rw [take_snoc HX.out, setF_snoc]; exact M2.out)⟩
        case measure => simp [intOf]; omega
      · have hkn : k = n := by omega
        subst hkn
        have HF := Lib.hid (show MapF LN.val wr b k (setF xs) by have := HM.out; rw [List.take_of_length_le (by rw [HL.out]; exact Nat.le_refl _)] at this; exact this)
        have HA := Lib.hid (show ∀ x ∈ xs, x.ok wr from fun x hx => by
          obtain ⟨i, hi⟩ := List.getElem?_of_mem hx
          have hi2 : i < xs.length := (List.getElem?_eq_some_iff.1 hi).1
          obtain ⟨_, _, _, hall⟩ := (RX0.out _ HBr.out).at (by rw [← HL.out]; omega)
          exact (hall i x hi).2)
        go_wp2_with fail
        go_returns
        exact ⟨SE1.out _ _ _ H0.out rfl HA.out HF.out HB.out, HBr.out⟩
  · have t0 : (z != 0) = true := by simp [h0]
    have H0 := Lib.hid h0; clear h0
    go_wp2_with fail
    go_returns
    exact ⟨SE0.out _ _ H0.out rfl, B1.out⟩
end
end Go.Proofs.YtlnhppgfhkkidaaGreat
namespace Go.Proofs.YtlnhppgfhkkidaaGreat
set_option linter.unusedSimpArgs false
open Go.RowKit

theorem setRow_at (w : World) (p : Nat) (c c' : Array Value) (t : TypeId) (fr : Nat × Nat) (hp : w.heap[p]? = some (.cells c t fr)) : (w.setRow p c').heap[p]? = some (.cells c' t fr) := by
  simp only [World.setRow, Array.getElem?_modify, hp]
  simp
theorem setRow_grown (w : World) (p : Nat) (c' : Array Value) : w.grownBy (w.setRow p c') (some p) :=
  ⟨rfl, rfl, rfl, by simp [World.setRow], fun k _ hk => by
    have : ¬ p = k := fun e => hk (by rw [e])
    simp [World.setRow, Array.getElem?_modify, this]⟩
theorem grownBy_below {w w' : World} (h : Below w.heap.size w w') (r : Option Nat) : w.grownBy w' r := ⟨h.os, h.tape, h.output, h.size, fun k hk _ => h.block k hk⟩
theorem grown_blk {w w' : World} {row : Option Nat} {p : Nat} {o : Obj} (hg : w.grownBy w' row) (h : w.heap[p]? = some o) (hne : some p ≠ row) : w'.heap[p]? = some o :=
  (hg.block p (Array.getElem?_eq_some_iff.1 h).1 hne).trans h
theorem below_blk {w w' : World} {p : Nat} {o : Obj} (hg : Below w.heap.size w w') (h : w.heap[p]? = some o) : w'.heap[p]? = some o :=
  (hg.block p (Array.getElem?_eq_some_iff.1 h).1).trans h
theorem blk_lt {w : World} {p : Nat} {o : Obj} (h : w.heap[p]? = some o) : p < w.heap.size := (Array.getElem?_eq_some_iff.1 h).1
section
attribute [local go_sem] noteA_2
theorem late_any (n : NoteV) (sa : Option Addr) (sc : Nat) (h m : Int) (q : Nat) (clock : Int) (w : World) (hq : w.heap[q]? = some (.cells #[.int .i64 clock] 3 (0, 0))) :
    Calls Tryz.prog 150 #[.agg #[.int .i64 h, .int .i64 m], .agg (noteA n sa sc), .pointer (some ⟨q, 0, none⟩)] w fun e w' => e = .returned (.bool (decide (clock < n.clock))) ∧ Below w.heap.size w w' := by
  have B := Lib.hid (((Below.refl w.heap.size w).alloc (Nat.le_refl _) (.cells #[.int .i64 h, .int .i64 m] 45)).alloc (by simp) (.cells (noteA n sa sc) 47))
  have hl := heap_at (w.alloc (.cells #[.int .i64 h, .int .i64 m] 45)) (.cells (noteA n sa sc) 47) (w.heap.size + 1) (by simp)
  have c2 := cell_of hl 2 (.int .i64 n.clock) rfl
  have q2 := cell_of (heap_before _ (.cells (noteA n sa sc) 47) _ _ (heap_before w (.cells #[.int .i64 h, .int .i64 m] 45) _ _ hq)) 0 (.int .i64 clock) rfl
  clear hl
  go_enter Tryz.func150, Tryz.ntmps150
  go_wp2_with fail
  go_ret
  exact ⟨rfl, B.out⟩
end
def lateF (clock : Int) (f : Nm → Option LN) (ks : List Nm) : Nm → Option LN := fun a => if a ∈ ks then (f a).filter (fun x => !decide (clock < x.n.clock)) else f a
theorem lateF_keep {clock : Int} {f : Nm → Option LN} {ks : List Nm} {k : Nm} {x : LN} (hf : f k = some x) (h : decide (clock < x.n.clock) = false) : lateF clock f (ks ++ [k]) = lateF clock f ks := by
  funext a
  unfold lateF
  by_cases e : a = k
  · subst e
    simp [hf, Option.filter, h]
  · simp [e]
theorem lateF_del {clock : Int} {f : Nm → Option LN} {ks : List Nm} {k : Nm} {x : LN} (hf : f k = some x) (h : decide (clock < x.n.clock) = true) : lateF clock f (ks ++ [k]) = delF (lateF clock f ks) k := by
  funext a
  unfold lateF delF
  by_cases e : a = k
  · subst e
    simp [hf, Option.filter, h]
  · simp [e]
theorem lateF_none {clock : Int} {f : Nm → Option LN} {ks : List Nm} {k : Nm} (hk : k ∉ ks) : lateF clock f ks k = f k := by simp [lateF, hk]
theorem lateF_all {clock : Int} {f : Nm → Option LN} {ks : List Nm} (h : ∀ k, (lateF clock f ks k).isSome = true → k ∈ ks) : lateF clock f ks = fun a => (f a).filter (fun x => !decide (clock < x.n.clock)) := by
  funext a
  by_cases e : a ∈ ks
  · simp [lateF, e]
  · have h1 := h a
    rw [lateF_none e] at h1
    rw [lateF_none e]
    cases hf : f a with
    | none => rfl
    | some x => exact absurd (h1 (by rw [hf]; rfl)) e
set_option maxRecDepth 100000 in
set_option maxHeartbeats 2000000 in
theorem delete_any (b n : Nat) (f : Nm → Option LN) (q : Nat) (clock : Int) (w : World) (hm : MapF LN.val w b n f) (hq : w.heap[q]? = some (.cells #[.int .i64 clock] 3 (0, 0))) :
    Calls Tryz.prog 149 #[.map (some b), .func (.func 150) #[] #[.pointer (some ⟨q, 0, none⟩)]] w fun e w' =>
      e = .returned (.tuple #[]) ∧ MapF LN.val w' b n (fun a => (f a).filter (fun x => !decide (clock < x.n.clock))) ∧ w.grownBy w' (some b) := by
  have I43 := Lib.hid (show ∀ (m : NoteV) (a : Option Addr) (c : Nat), (Tryz.prog.info? 47).map (·.size) = some (noteA m a c).size from fun m a c => by kernel_rfl)
  have I41 := Lib.hid (show ∀ (x y : Int), (Tryz.prog.info? 45).map (·.size) = some (#[Value.int .i64 x, Value.int .i64 y]).size from fun x y => by kernel_rfl)
  have hbw := hm.lt
  have HBW := Lib.hid hbw; clear hbw
  have HQ := Lib.hid hq; clear hq
  have HNE := Lib.hid (show q ≠ b from fun e => by
    subst e
    obtain ⟨D, ⟨es, clock, h1, _⟩, _⟩ := hm
    rw [HQ.out] at h1; cases h1)
  go_enter Tryz.func149, Tryz.ntmps149
  go_wp2_with (first
    | (at_range; refine wpList_range_nm _ rfl _ 119 47 rfl Tryz.underlying119 b n rfl hm ?_; intro w0 cnt0 hrg0 hg0 hs0)
    | fail)
  go_frame
  obtain ⟨r, hr⟩ : ∃ r, Hid (w.heap.size = r) := ⟨_, Lib.hid rfl⟩
  have HQ0 := Lib.hid (grown_blk hg0 HQ.out (by simp))
  have G0 := Lib.hid (hg0.but (some b))
  rw [hr.out] at hrg0
  rw [hr.out]
  clear hm hg0 hs0
  go_loopw [8] (fun _ wr => ∃ (ks : List Nm) (cnt : Nat), Hid (RangeF LN.val wr b r n (lateF clock f ks) ks cnt) ∧ Hid (w.grownBy wr (some b)) ∧ Hid (wr.heap[q]? = some (.cells #[.int .i64 clock] 3 (0, 0)))) (fun _ wr => wr.rangeLeft b r)
  case atStart => exact ⟨[], cnt0, Lib.hid (by rw [show lateF clock f [] = f from funext fun a => by simp [lateF]]; exact hrg0), G0, HQ0⟩
  case round =>
    obtain ⟨ks, cnt, HR, HG, HC⟩ := hrel
    clear HQ0 hrg0 G0
    go_upto_region 2 with (first
      | (at_next; refine wpList_next_nm wr rfl _ rfl b r n cnt ks rfl HR.out ?_ ?_)
      | fail)
    · intro hall
      have HE := Lib.hid (show MapF LN.val wr b n (fun a => (f a).filter (fun x => !decide (clock < x.n.clock))) by rw [← lateF_all hall]; exact HR.out.map)
      clear hall
      go_wp2_with fail
      go_end0
      exact ⟨rfl, HE.out, HG.out⟩
    · intro kh km y w1 cnt1 HN hen
      unfold LN.val at hen
      have HC1 := Lib.hid (grown_blk HN.out.grown HC.out (fun e => by
        have e' := Option.some.inj e
        have h1 := blk_lt HQ.out
        have h2 := hr.out
        omega))
      have HG1 := Lib.hid (HG.out.andThen HN.out.grown (fun j hj => by cases hj; exact .inl (by rw [hr.out]; exact Nat.le_refl _)))
      have HR1 := Lib.hid HN.out.range
      go_upto_region 3 with (first
        | (refine wpList_store_newp (w1.alloc (.cells #[.int .i64 kh, .int .i64 km] 45)) rfl 47 _ _ rfl (w1.heap.size + 1) (by simp) _ (noteA y.n y.sa y.sc) rfl rfl (I43.out _ _ _) rfl (noteA_one y.n y.sa y.sc) ?_))
      have BT := Lib.hid (((Below.refl w1.heap.size w1).alloc (Nat.le_refl _) (.cells #[.int .i64 kh, .int .i64 km] 45)).alloc (by simp) (.cells (noteA y.n y.sa y.sc) 47))
      have T4 := Lib.hid (heap_before _ (.cells (noteA y.n y.sa y.sc) 47) _ _ (heap_last w1 (.cells #[.int .i64 kh, .int .i64 km] 45)))
      have T5 := Lib.hid (heap_at (w1.alloc (.cells #[.int .i64 kh, .int .i64 km] 45)) (.cells (noteA y.n y.sa y.sc) 47) (w1.heap.size + 1) (by simp))
      generalize (w1.alloc (.cells #[.int .i64 kh, .int .i64 km] 45)).alloc (.cells (noteA y.n y.sa y.sc) 47) = wt at *
      obtain ⟨p4, hp4⟩ : ∃ p4, Hid (w1.heap.size = p4) := ⟨_, Lib.hid rfl⟩
      obtain ⟨p5, hp5⟩ : ∃ p5, Hid (w1.heap.size + 1 = p5) := ⟨_, Lib.hid rfl⟩
      rw [hp5.out] at T5 ⊢
      rw [hp4.out] at T4 ⊢
      have RT := Lib.hid (HR1.out.below BT.out)
      have CT := Lib.hid (below_blk BT.out HC1.out)
      have GT := Lib.hid (HG1.out.andThen (grownBy_below BT.out none) (fun j hj => by cases hj))
      have n0 := cell_of T4.out 0 (.int .i64 kh) rfl
      have n1 := cell_of T4.out 1 (.int .i64 km) rfl
      have LB := Lib.hid (show b < wt.heap.size from RT.out.map.lt)
      clear hen
      go_wp2_with (first
        | (refine wpList_load_row rfl 47 _ rfl p5 rfl 47 (noteA y.n y.sa y.sc) (0, 0) _ T5.out Tryz.underlying47 rfl (I43.out _ _ _) ?_))
      refine (late_any y.n y.sa y.sc kh km q clock wt CT.out).mono ?_
      rintro e w2 ⟨rfl, b2⟩
      have R2 := Lib.hid (RT.out.below b2)
      have C2 := Lib.hid (below_blk b2 CT.out)
      have G2 := Lib.hid (GT.out.andThen (grownBy_below b2 none) (fun j hj => by cases hj))
      have T42 := Lib.hid (below_blk b2 T4.out)
      clear b2 n0 n1
      have n0 := cell_of T42.out 0 (.int .i64 kh) rfl
      have n1 := cell_of T42.out 1 (.int .i64 km) rfl
      cases hc : decide (clock < y.n.clock)
      · have HE := Lib.hid (lateF_keep (clock := clock) (ks := ks) (show f (kh, km) = some y by rw [← lateF_none (clock := clock) (f := f) HN.out.new]; exact HN.out.at_) hc)
        clear hc
        go_wp2_with fail
        go_roundw
        case rel => exact ⟨_, _, Lib.hid (by rw [HE.out]; exact R2.out), G2, C2⟩
        case measure => rw [R2.out.left_eq, HR.out.left_eq]; exact HN.out.lt
      · have HE := Lib.hid (lateF_del (clock := clock) (ks := ks) (show f (kh, km) = some y by rw [← lateF_none (clock := clock) (f := f) HN.out.new]; exact HN.out.at_) hc)
        clear hc
        go_wp2_with (first
          | (at_delete; refine wpList_del_nm w2 rfl _ _ 119 47 rfl Tryz.underlying119 b r n _ _ (kh, km) rfl R2.out rfl HN.out.ok (by simp) ?_; intro w3 cnt3 hr3 hle3 ht3; go_frame)
          | fail)
        have C3 := Lib.hid (grown_blk ht3.grown C2.out (fun e => HNE.out (Option.some.inj e)))
        have G3 := Lib.hid (G2.out.andThen ht3.grown (fun j hj => .inr hj))
        have R3 := Lib.hid hr3
        have L3 := Lib.hid hle3
        clear hr3 hle3 ht3
        go_roundw
        case rel => exact ⟨_, _, Lib.hid (by rw [HE.out]; exact R3.out), G3, C3⟩
        case measure => rw [R3.out.left_eq, HR.out.left_eq]; exact Nat.lt_of_le_of_lt L3.out HN.out.lt
end Go.Proofs.YtlnhppgfhkkidaaGreat
