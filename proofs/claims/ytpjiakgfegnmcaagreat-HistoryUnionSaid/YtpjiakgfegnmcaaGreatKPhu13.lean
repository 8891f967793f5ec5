/- The given row HistoryUnion, proved: whatever the input, true, and the input reads as it did. -/
import Derived.Test.YtpjiakgfegnmcaaGreatKPhu12
set_option linter.unusedSimpArgs false
set_option linter.unusedVariables false
open List renaming getElem_toArray → lq0, getElem_cons_succ → lq1, getElem_cons_zero → lq2, setIfInBounds_toArray → lq3, set_cons_zero → lq4, set_cons_succ → lq5
namespace Go.Proofs.YtpjiakgfegnmcaaGreat
set_option linter.unusedSimpArgs false
open Go.RowKit

theorem namesC_neg (x m y k : Int) : namesC x m y k < 0 ↔ x < y ∨ x = y ∧ m < k := by
  rw [namesC, orI_neg, cmpI_neg, cmpI_neg, cmpI_zero]
theorem namesC_eq0 (x m y k : Int) : namesC x m y k = 0 ↔ x = y ∧ m = k := by
  unfold namesC orI
  split
  · rename_i h
    rw [cmpI_zero] at h
    rw [cmpI_zero]
    exact ⟨fun h2 => ⟨h, h2⟩, fun h2 => h2.2⟩
  · rename_i h
    rw [cmpI_zero] at h
    exact ⟨fun h2 => absurd ((cmpI_zero x y).1 h2) h, fun h2 => absurd h2.1 h⟩
theorem namesC_lt (x y : NoteV) : namesC x.house x.num y.house y.num < 0 ↔ ltN x y := by
  unfold ltN nmLt
  rw [decide_eq_true_eq]
  exact Iff.rfl
set_option maxHeartbeats 32000000 in
set_option maxRecDepth 100000 in
theorem rmerge_any (f : FrV) (a : Option Addr) (nn nc : Nat) (l : List NoteV) (ma : Option Addr) (mn mc : Nat) (m : List NoteV) (w : World) (hr : RdNs w a nn nc l) (hm : RdNs w ma mn mc m)
    (hlen : (checkSetP f l).1 = 0 → (checkSetP f m).1 = 0 → l.length + m.length ≤ 400) :
    Calls Tryz.prog 39 #[f.val, .slice a nn nc, .slice ma mn mc] w fun e w' => MergeRet f l m e w' ∧ Below w.heap.size w w' := by
  have J19 : (Tryz.prog.info? 51).map (·.size) = some 19 := by kernel_rfl
  have FK := Lib.hid (fun W hb => rfork_any f a nn nc l ma mn mc m W (hr.below (show Below w.heap.size w W from hb)) (hm.below hb))
  obtain ⟨xs, hxs, hrl⟩ := hr.choose
  have RL := Lib.hid hrl
  have HXS := Lib.hid hxs
  have LNX := Lib.hid hrl.1
  have HLN := Lib.hid hr.1
  have LOK := Lib.hid (show ∀ W, Below w.heap.size w W → ∀ x ∈ xs, x.ok W from fun W hb x hx => (ls_ok hrl hx).below hb)
  obtain ⟨ys, hys, hml⟩ := hm.choose
  have ML := Lib.hid hml
  have HYS := Lib.hid hys
  have LMY := Lib.hid hml.1
  have HMN := Lib.hid hm.1
  have MOK := Lib.hid (show ∀ W, Below w.heap.size w W → ∀ x ∈ ys, x.ok W from fun W hb x hx => (ls_ok hml hx).below hb)
  have HLEN := Lib.hid hlen
  have hvl : f.val = .agg #[.int .i64 f.rings, .int .i64 f.sectors, .int .i64 f.wide] := rfl
  rw [hvl] at FK ⊢
  clear hvl hr hm hxs hrl hys hml hlen
  have B0 := Lib.hid ((Below.refl w.heap.size w).alloc (Nat.le_refl _) (.cells #[.int .i64 f.rings, .int .i64 f.sectors, .int .i64 f.wide] 23))
  have F0 := Lib.hid (heap_last w (.cells #[.int .i64 f.rings, .int .i64 f.sectors, .int .i64 f.wide] 23))
  go_enter Tryz.func39, Tryz.ntmps39
  go_upto_region 1 with fail
  obtain ⟨pF, hpF⟩ : ∃ p, Hid (w.heap.size = p) := ⟨_, Lib.hid rfl⟩
  rw [hpF.out] at F0 ⊢
  generalize w.alloc (.cells #[.int .i64 f.rings, .int .i64 f.sectors, .int .i64 f.wide] 23) = W0 at *
  have c0 := cell_of F0.out 0 (.int .i64 f.rings) rfl
  have c1 := cell_of F0.out 1 (.int .i64 f.sectors) rfl
  have c2 := cell_of F0.out 2 (.int .i64 f.wide) rfl
  go_wp2_with fail
  refine (FK.out W0 B0.out).mono ?_
  clear c0 c1 c2
  unfold ForkRet
  rintro e W1 ⟨rfl, b1⟩
  have B1 := Lib.hid (B0.out.trans (b1.mono B0.out.size))
  clear b1 B0 F0
  rcases forkV_cases f l m with ⟨hbad, hv, he⟩ | ⟨hs1, hs2, ⟨a0, hfk, hv, he⟩ | ⟨hfk, hv, he⟩⟩
  · rw [hv]
    have HE := Lib.hid he
    clear hbad hv he
    go_wp2_with fail
    go_returns
    exact ⟨.bad (by rw [HE.out] <;> rfl) (by rw [HE.out]; decide), B1.out.alloc B1.out.size _⟩
  · rw [hv]
    have HE := Lib.hid he
    clear hfk hv he hs1 hs2
    go_wp2_with fail
    go_returns
    exact ⟨.bad (by rw [HE.out] <;> rfl) (by rw [HE.out]; decide), B1.out.alloc B1.out.size _⟩
  rw [hv]
  have HE := Lib.hid he
  have NF : Hid (NoFork l m) := Lib.hid (forkAt_none.1 hfk)
  have HS := Lib.hid hs1
  have HS2 := Lib.hid hs2
  clear hfk hv he hs1 hs2
  have HL4 := Lib.hid (HLEN.out HS.out HS2.out)
  have PL : Hid (l.Pairwise ltN) := Lib.hid (set_ok HS.out).2.2.2
  have PM : Hid (m.Pairwise ltN) := Lib.hid (set_ok HS2.out).2.2.2
  have HNM4 : Hid (nn + mn ≤ 400) := Lib.hid (by have := HL4.out; rw [HLN.out, HMN.out] at this; exact this)
  have XST := Lib.hid (show ∀ x ∈ l, x.strokes.length ≤ 1000000000 from fun x hx => Nat.le_trans (formed_len (set_ok HS.out).1 ((set_ok HS.out).2.2.1 x hx)) (by decide))
  have YST := Lib.hid (show ∀ x ∈ m, x.strokes.length ≤ 1000000000 from fun x hx => Nat.le_trans (formed_len (set_ok HS2.out).1 ((set_ok HS2.out).2.2.1 x hx)) (by decide))
  have B2 := Lib.hid (B1.out.alloc B1.out.size (.cells #[.int .i64 0, .int .i64 0] 29))
  go_upto_region 2 with fail
  generalize W1.alloc (.cells #[.int .i64 0, .int .i64 0] 29) = W2 at *
  go_wp2_with fail
  go_loopw [10, 11, 12] (fun ov iv kv wr => ∃ (i k : Nat) (oa : Option Addr) (on oc : Nat) (zs : List LN), ov = .slice oa on oc ∧ iv = .int .i64 (i : Int) ∧ kv = .int .i64 (k : Int) ∧ i ≤ nn ∧ k ≤ mn ∧ Hid (MgAt W2 wr oa oc on zs) ∧ Hid (MgSt l m (zs.map LN.n) i k)) (fun _ iv kv _ => (nn - (intOf iv).toNat) + (mn - (intOf kv).toNat))
  case atStart => exact ⟨0, 0, none, 0, 0, [], rfl, rfl, rfl, Nat.zero_le _, Nat.zero_le _, Lib.hid (MgAt.start _), Lib.hid (MgSt.start l m)⟩
  case round =>
    obtain ⟨i, k, oa, on, oc, zs, rfl, rfl, rfl, hi, hk, MA, MS⟩ := hrel
    have BW := Lib.hid (B2.out.trans (MA.out.bel.mono B2.out.size))
    have HON : Hid (on ≤ 400) := Lib.hid (by have h1 := MS.out.len; have h2 := HL4.out; rw [List.length_map, MA.out.len] at h1; omega)
    have HXI := Lib.hid (show ∀ (h : i < nn), ∃ x b off, xs[i]? = some x ∧ l[i]? = some x.n ∧ a = some ⟨b, off, none⟩ ∧ wr.rangeAt b (off + i * 19) (x.n.cells x.sa x.sc) from fun h => by
      obtain ⟨x, Hx⟩ : ∃ x, xs[i]? = some x := ⟨_, List.getElem?_eq_getElem (by rw [LNX.out]; exact h)⟩
      obtain ⟨b, off, hb, hat⟩ := (RL.out.below BW.out).at (by omega)
      exact ⟨x, b, off, Hx, by rw [← HXS.out, List.getElem?_map, Hx]; rfl, hb, (hat i x Hx).1⟩)
    have HYK := Lib.hid (show ∀ (h : k < mn), ∃ y b off, ys[k]? = some y ∧ m[k]? = some y.n ∧ ma = some ⟨b, off, none⟩ ∧ wr.rangeAt b (off + k * 19) (y.n.cells y.sa y.sc) from fun h => by
      obtain ⟨y, Hy⟩ : ∃ y, ys[k]? = some y := ⟨_, List.getElem?_eq_getElem (by rw [LMY.out]; exact h)⟩
      obtain ⟨b, off, hb, hat⟩ := (ML.out.below BW.out).at (by omega)
      exact ⟨y, b, off, Hy, by rw [← HYS.out, List.getElem?_map, Hy]; rfl, hb, (hat k y Hy).1⟩)
    have HK64 : Hid ((k : Int) + 1 ≤ 9223372036854775807 ∧ (i : Int) + 1 ≤ 9223372036854775807) := Lib.hid (by have := HNM4.out; omega)
    by_cases hin : i < nn
    · have t0 : decide ((i : Int) < (nn : Int)) = true := by simp; omega
      obtain ⟨x, b, off, hx, HLX, rfl, hxa⟩ := HXI.out hin
      obtain ⟨o, ho⟩ : ∃ o, Hid (off + i * 19 = o) := ⟨_, Lib.hid rfl⟩
      have HX := Lib.hid hxa
      rw [ho.out] at HX
      have XM := Lib.hid (List.mem_of_getElem? hx)
      have HLXX := Lib.hid HLX
      have HIX := Lib.hid (fun W => idx_off (W := W) (c := nc) (b := b) Tryz.underlying43 J19 hin ho.out)
      clear hx hxa HLX HXI
      by_cases hkm : k < mn
      · have t1 : ((k : Int) == (mn : Int)) = false := by simp; omega
        obtain ⟨y, b2, off2, hy, HLY, rfl, hya⟩ := HYK.out hkm
        obtain ⟨o2, ho2⟩ : ∃ o, Hid (off2 + k * 19 = o) := ⟨_, Lib.hid rfl⟩
        have HY := Lib.hid hya
        rw [ho2.out] at HY
        have YM := Lib.hid (List.mem_of_getElem? hy)
        have HLYY := Lib.hid HLY
        have HIY := Lib.hid (fun W => idx_off (W := W) (c := mc) (b := b2) Tryz.underlying43 J19 hkm ho2.out)
        clear hy hya HLY HYK
        have LX := Lib.hid (show ∀ w0, Below wr.heap.size wr w0 → w0.rangeAt b o (x.n.cells x.sa x.sc) from fun w0 h => rangeAt_below HX.out h)
        have LY := Lib.hid (show ∀ w0, Below wr.heap.size wr w0 → w0.rangeAt b2 o2 (y.n.cells y.sa y.sc) from fun w0 h => rangeAt_below HY.out h)
        have hC0 : Below wr.heap.size wr wr.drew := (Below.refl _ _).drew
        obtain ⟨z, hz⟩ : ∃ z, Hid (namesC x.n.house x.n.num y.n.house y.n.num = z) := ⟨_, Lib.hid rfl⟩
        go_upto_region 14 with fail
        clear t1
        try simp only [Act.put, lq3, lq4, lq5]
        refine wp_region_quiet (C := fun w' : World => Below wr.heap.size wr w') (by kernel_rfl) (by kernel_rfl) hC0 ?_
        show wpQuiet _ _ _ _ (_ :: _) _
        go_big_quiet_want
        go_big_quiet_op
        go_big_quiet_on
        go_big_quiet_want
        go_big_quiet_op
        go_big_quiet_on
        go_big_quiet_want
        refine ⟨.pointer (some ⟨b, o, none⟩), fun w0 hC => ?_, ?_⟩
        · have hix := HIX.out w0
          clear hC
          go_simp
        simp only [Act.put, lq3, lq4, lq5]
        go_big_quiet_on
        go_big_quiet_want
        refine ⟨.agg (noteA x.n x.sa x.sc), fun w0 hC => quiet_load_note (.tmp 46) rfl b o rfl x.n x.sa x.sc (LX.out w0 hC), ?_⟩
        simp only [Act.put, lq3, lq4, lq5]
        go_big_quiet_on
        go_big_quiet_want
        refine ⟨.agg #[.int .i64 x.n.house, .int .i64 x.n.num], fun w0 hC => ?_, ?_⟩
        · go_simp
          refine (rNameOf_any x.n x.sa x.sc w0).mono ?_
          rintro e w1 ⟨rfl, b1⟩
          exact ⟨rfl, hC.trans (b1.mono hC.size)⟩
        simp only [Act.put, lq3, lq4, lq5]
        go_big_quiet_on
        go_big_quiet_want
        go_big_quiet_op
        go_big_quiet_on
        go_big_quiet_want
        go_big_quiet_op
        go_big_quiet_on
        go_big_quiet_want
        refine ⟨.pointer (some ⟨b2, o2, none⟩), fun w0 hC => ?_, ?_⟩
        · have hix := HIY.out w0
          clear hC
          go_simp
        simp only [Act.put, lq3, lq4, lq5]
        go_big_quiet_on
        go_big_quiet_want
        refine ⟨.agg (noteA y.n y.sa y.sc), fun w0 hC => quiet_load_note (.tmp 51) rfl b2 o2 rfl y.n y.sa y.sc (LY.out w0 hC), ?_⟩
        simp only [Act.put, lq3, lq4, lq5]
        go_big_quiet_on
        go_big_quiet_want
        refine ⟨.agg #[.int .i64 y.n.house, .int .i64 y.n.num], fun w0 hC => ?_, ?_⟩
        · go_simp
          refine (rNameOf_any y.n y.sa y.sc w0).mono ?_
          rintro e w1 ⟨rfl, b1⟩
          exact ⟨rfl, hC.trans (b1.mono hC.size)⟩
        simp only [Act.put, lq3, lq4, lq5]
        go_big_quiet_on
        go_big_quiet_want
        refine ⟨.int .i64 z, fun w0 hC => ?_, ?_⟩
        · go_simp
          refine (rcmp_any x.n.house x.n.num y.n.house y.n.num w0).mono ?_
          rintro e w1 ⟨rfl, b1⟩
          exact ⟨by rw [hz.out], hC.trans (b1.mono hC.size)⟩
        simp only [Act.put, lq3, lq4, lq5]
        go_big_quiet_on
        go_big_quiet_want
        go_big_quiet_op
        go_big_quiet_on
        refine wpQuiet_nil ?_
        intro w' hC
        have MA2 := Lib.hid (MA.out.below hC)
        have BW2 := Lib.hid (BW.out.trans (hC.mono BW.out.size))
        have HX2 := Lib.hid (LX.out w' hC)
        have HY2 := Lib.hid (LY.out w' hC)
        clear hC LX LY HX HY MA BW
        rcases Int.lt_trichotomy z 0 with hz1 | hz1 | hz1
        · have LT : Hid (ltN x.n y.n) := Lib.hid ((namesC_lt x.n y.n).1 (by rw [hz.out]; exact hz1))
          have t5 : decide (z ≤ 0) = true := by simp; omega
          have t6 : decide (0 < z) = false := by simp; omega
          have t7 : decide (0 ≤ z) = false := by simp; omega
          clear hz1
          have hix := HIX.out w'
          go_wp2_with (first
            | (refine wpList_load_mid rfl 51 _ rfl b o rfl (x.n.cells x.sa x.sc) _ HX2.out Tryz.underlying51 rfl (size43 x.n x.sa x.sc) ?_)
            | fail)
          refine (rcopy_any x.n x.sa x.sc w' (LOK.out w' BW2.out x XM.out) (XST.out x.n (List.mem_of_getElem? HLXX.out))).mono ?_
          rintro e w5 ⟨ta, tc, rfl, hown, b5⟩
          have MA5 := Lib.hid (MA2.out.below b5)
          have HO5 := Lib.hid (own_mono hown MA2.out.bel.size)
          have bn : Below w5.heap.size w5 (w5.alloc (.cells (noteA x.n ta tc) 51)) := (Below.refl _ _).alloc (Nat.le_refl _) _
          obtain ⟨a', c', v9, hrun, ho9, hg9⟩ := run_app_nt (w5.alloc (.cells (noteA x.n ta tc) 51)) W2.heap.size oa on oc _ (own_below MA5.out.own bn) _ 1 1 _ (lit_note w5 x.n ta tc) (x.n.cells_one _ _) (by have := HON.out; omega) (Nat.le_trans MA5.out.bel.size bn.size)
          have MA9 := Lib.hid (MA5.out.add (x := ⟨x.n, ta, tc⟩) HO5.out ho9 hg9)
          have MS9 : Hid (MgSt l m ((zs ++ [(⟨x.n, ta, tc⟩ : LN)]).map LN.n) (i + 1) (k)) := Lib.hid (by rw [List.map_append]; exact MS.out.left PL.out PM.out HLXX.out (.inr ⟨y.n, HLYY.out, LT.out⟩))
          clear hown b5 bn ho9 hg9 MA5 HO5 hix
          have hk64 := HK64.out.1
          have hi64 := HK64.out.2
          go_wp2_with (first
            | (refine wpList_build_note rfl _ rfl x.n ta tc rfl ?_)
            | (refine wpList_append_eq rfl _ _ _ rfl _ _ _ rfl rfl hrun ?_)
            | fail)
          go_roundw
          case rel => exact ⟨i + 1, k, a', on + 1, c', zs ++ [⟨x.n, ta, tc⟩], by go_num, by go_num, by go_num, by omega, by omega, MA9, MS9⟩
          case measure => simp [intOf]; omega
        · subst hz1
          have EQ : Hid (x.n = y.n) := Lib.hid (by
            have h1 : nmOf x.n = nmOf y.n := nm_total (by
              cases h2 : nmLt (nmOf x.n) (nmOf y.n) with
              | false => rfl
              | true => have := (namesC_lt x.n y.n).2 h2; rw [hz.out] at this; omega) (by
              cases h2 : nmLt (nmOf y.n) (nmOf x.n) with
              | false => rfl
              | true =>
                have h3 := (namesC_lt y.n x.n).2 h2
                rw [namesC_neg] at h3
                have h4 := hz.out
                rw [namesC_eq0] at h4
                omega)
            exact NF.out x.n (List.mem_of_getElem? HLXX.out) y.n (List.mem_of_getElem? HLYY.out) h1)
          have hix := HIX.out w'
          go_wp2_with (first
            | (refine wpList_load_mid rfl 51 _ rfl b o rfl (x.n.cells x.sa x.sc) _ HX2.out Tryz.underlying51 rfl (size43 x.n x.sa x.sc) ?_)
            | fail)
          refine (rcopy_any x.n x.sa x.sc w' (LOK.out w' BW2.out x XM.out) (XST.out x.n (List.mem_of_getElem? HLXX.out))).mono ?_
          rintro e w5 ⟨ta, tc, rfl, hown, b5⟩
          have MA5 := Lib.hid (MA2.out.below b5)
          have HO5 := Lib.hid (own_mono hown MA2.out.bel.size)
          have bn : Below w5.heap.size w5 (w5.alloc (.cells (noteA x.n ta tc) 51)) := (Below.refl _ _).alloc (Nat.le_refl _) _
          obtain ⟨a', c', v9, hrun, ho9, hg9⟩ := run_app_nt (w5.alloc (.cells (noteA x.n ta tc) 51)) W2.heap.size oa on oc _ (own_below MA5.out.own bn) _ 1 1 _ (lit_note w5 x.n ta tc) (x.n.cells_one _ _) (by have := HON.out; omega) (Nat.le_trans MA5.out.bel.size bn.size)
          have MA9 := Lib.hid (MA5.out.add (x := ⟨x.n, ta, tc⟩) HO5.out ho9 hg9)
          have MS9 : Hid (MgSt l m ((zs ++ [(⟨x.n, ta, tc⟩ : LN)]).map LN.n) (i + 1) (k + 1)) := Lib.hid (by rw [List.map_append]; exact MS.out.both PL.out PM.out HLXX.out (by rw [EQ.out]; exact HLYY.out))
          clear hown b5 bn ho9 hg9 MA5 HO5 hix
          have hk64 := HK64.out.1
          have hi64 := HK64.out.2
          go_wp2_with (first
            | (refine wpList_build_note rfl _ rfl x.n ta tc rfl ?_)
            | (refine wpList_append_eq rfl _ _ _ rfl _ _ _ rfl rfl hrun ?_)
            | fail)
          go_roundw
          case rel => exact ⟨i + 1, k + 1, a', on + 1, c', zs ++ [⟨x.n, ta, tc⟩], by go_num, by go_num, by go_num, by omega, by omega, MA9, MS9⟩
          case measure => simp [intOf]; omega
        · have LT : Hid (ltN y.n x.n) := Lib.hid ((namesC_lt y.n x.n).1 (by
            have h4 : ¬ namesC x.n.house x.n.num y.n.house y.n.num < 0 := by rw [hz.out]; omega
            have h5 : ¬ namesC x.n.house x.n.num y.n.house y.n.num = 0 := by rw [hz.out]; omega
            rw [namesC_neg] at h4 ⊢
            rw [namesC_eq0] at h5
            omega))
          have t5 : decide (z ≤ 0) = false := by simp; omega
          have t6 : decide (0 < z) = true := by simp; omega
          have t7 : decide (0 ≤ z) = true := by simp; omega
          clear hz1
          have hix := HIY.out w'
          go_wp2_with (first
            | (refine wpList_load_mid rfl 51 _ rfl b2 o2 rfl (y.n.cells y.sa y.sc) _ HY2.out Tryz.underlying51 rfl (size43 y.n y.sa y.sc) ?_)
            | fail)
          refine (rcopy_any y.n y.sa y.sc w' (MOK.out w' BW2.out y YM.out) (YST.out y.n (List.mem_of_getElem? HLYY.out))).mono ?_
          rintro e w5 ⟨ta, tc, rfl, hown, b5⟩
          have MA5 := Lib.hid (MA2.out.below b5)
          have HO5 := Lib.hid (own_mono hown MA2.out.bel.size)
          have bn : Below w5.heap.size w5 (w5.alloc (.cells (noteA y.n ta tc) 51)) := (Below.refl _ _).alloc (Nat.le_refl _) _
          obtain ⟨a', c', v9, hrun, ho9, hg9⟩ := run_app_nt (w5.alloc (.cells (noteA y.n ta tc) 51)) W2.heap.size oa on oc _ (own_below MA5.out.own bn) _ 1 1 _ (lit_note w5 y.n ta tc) (y.n.cells_one _ _) (by have := HON.out; omega) (Nat.le_trans MA5.out.bel.size bn.size)
          have MA9 := Lib.hid (MA5.out.add (x := ⟨y.n, ta, tc⟩) HO5.out ho9 hg9)
          have MS9 : Hid (MgSt l m ((zs ++ [(⟨y.n, ta, tc⟩ : LN)]).map LN.n) (i) (k + 1)) := Lib.hid (by rw [List.map_append]; exact MS.out.right PL.out PM.out HLYY.out (.inr ⟨x.n, HLXX.out, LT.out⟩))
          clear hown b5 bn ho9 hg9 MA5 HO5 hix
          have hk64 := HK64.out.1
          have hi64 := HK64.out.2
          go_wp2_with (first
            | (refine wpList_build_note rfl _ rfl y.n ta tc rfl ?_)
            | (refine wpList_append_eq rfl _ _ _ rfl _ _ _ rfl rfl hrun ?_)
            | fail)
          go_roundw
          case rel => exact ⟨i, k + 1, a', on + 1, c', zs ++ [⟨y.n, ta, tc⟩], by go_num, by go_num, by go_num, by omega, by omega, MA9, MS9⟩
          case measure => simp [intOf]; omega
      · have t1 : ((k : Int) == (mn : Int)) = true := by simp; omega
        have KE : Hid (m.length ≤ k) := Lib.hid (by rw [HMN.out]; omega)
        clear HYK
        have hix := HIX.out wr
        go_wp2_with (first
          | (refine wpList_load_mid rfl 51 _ rfl b o rfl (x.n.cells x.sa x.sc) _ HX.out Tryz.underlying51 rfl (size43 x.n x.sa x.sc) ?_)
          | fail)
        refine (rcopy_any x.n x.sa x.sc wr (LOK.out wr BW.out x XM.out) (XST.out x.n (List.mem_of_getElem? HLXX.out))).mono ?_
        rintro e w5 ⟨ta, tc, rfl, hown, b5⟩
        have MA5 := Lib.hid (MA.out.below b5)
        have HO5 := Lib.hid (own_mono hown MA.out.bel.size)
        have bn : Below w5.heap.size w5 (w5.alloc (.cells (noteA x.n ta tc) 51)) := (Below.refl _ _).alloc (Nat.le_refl _) _
        obtain ⟨a', c', v9, hrun, ho9, hg9⟩ := run_app_nt (w5.alloc (.cells (noteA x.n ta tc) 51)) W2.heap.size oa on oc _ (own_below MA5.out.own bn) _ 1 1 _ (lit_note w5 x.n ta tc) (x.n.cells_one _ _) (by have := HON.out; omega) (Nat.le_trans MA5.out.bel.size bn.size)
        have MA9 := Lib.hid (MA5.out.add (x := ⟨x.n, ta, tc⟩) HO5.out ho9 hg9)
        have MS9 : Hid (MgSt l m ((zs ++ [(⟨x.n, ta, tc⟩ : LN)]).map LN.n) (i + 1) (k)) := Lib.hid (by rw [List.map_append]; exact MS.out.left PL.out PM.out HLXX.out (.inl KE.out))
        clear hown b5 bn ho9 hg9 MA5 HO5 hix
        have hk64 := HK64.out.1
        have hi64 := HK64.out.2
        go_wp2_with (first
          | (refine wpList_build_note rfl _ rfl x.n ta tc rfl ?_)
          | (refine wpList_append_eq rfl _ _ _ rfl _ _ _ rfl rfl hrun ?_)
          | fail)
        go_roundw
        case rel => exact ⟨i + 1, k, a', on + 1, c', zs ++ [⟨x.n, ta, tc⟩], by go_num, by go_num, by go_num, by omega, by omega, MA9, MS9⟩
        case measure => simp [intOf]; omega
    · have t0 : decide ((i : Int) < (nn : Int)) = false := by simp; omega
      by_cases hkm : k < mn
      · have t1 : ((k : Int) == (mn : Int)) = false := by simp; omega
        have t2 : decide ((k : Int) < (mn : Int)) = true := by simp; omega
        have IE : Hid (l.length ≤ i) := Lib.hid (by rw [HLN.out]; omega)
        obtain ⟨y, b2, off2, hy, HLY, rfl, hya⟩ := HYK.out hkm
        obtain ⟨o2, ho2⟩ : ∃ o, Hid (off2 + k * 19 = o) := ⟨_, Lib.hid rfl⟩
        have HY := Lib.hid hya
        rw [ho2.out] at HY
        have YM := Lib.hid (List.mem_of_getElem? hy)
        have HLYY := Lib.hid HLY
        have HIY := Lib.hid (fun W => idx_off (W := W) (c := mc) (b := b2) Tryz.underlying43 J19 hkm ho2.out)
        clear hy hya HLY HYK HXI
        have hix := HIY.out wr
        go_wp2_with (first
          | (refine wpList_load_mid rfl 51 _ rfl b2 o2 rfl (y.n.cells y.sa y.sc) _ HY.out Tryz.underlying51 rfl (size43 y.n y.sa y.sc) ?_)
          | fail)
        refine (rcopy_any y.n y.sa y.sc wr (MOK.out wr BW.out y YM.out) (YST.out y.n (List.mem_of_getElem? HLYY.out))).mono ?_
        rintro e w5 ⟨ta, tc, rfl, hown, b5⟩
        have MA5 := Lib.hid (MA.out.below b5)
        have HO5 := Lib.hid (own_mono hown MA.out.bel.size)
        have bn : Below w5.heap.size w5 (w5.alloc (.cells (noteA y.n ta tc) 51)) := (Below.refl _ _).alloc (Nat.le_refl _) _
        obtain ⟨a', c', v9, hrun, ho9, hg9⟩ := run_app_nt (w5.alloc (.cells (noteA y.n ta tc) 51)) W2.heap.size oa on oc _ (own_below MA5.out.own bn) _ 1 1 _ (lit_note w5 y.n ta tc) (y.n.cells_one _ _) (by have := HON.out; omega) (Nat.le_trans MA5.out.bel.size bn.size)
        have MA9 := Lib.hid (MA5.out.add (x := ⟨y.n, ta, tc⟩) HO5.out ho9 hg9)
        have MS9 : Hid (MgSt l m ((zs ++ [(⟨y.n, ta, tc⟩ : LN)]).map LN.n) (i) (k + 1)) := Lib.hid (by rw [List.map_append]; exact MS.out.right PL.out PM.out HLYY.out (.inl IE.out))
        clear hown b5 bn ho9 hg9 MA5 HO5 hix
        have hk64 := HK64.out.1
        have hi64 := HK64.out.2
        go_wp2_with (first
          | (refine wpList_build_note rfl _ rfl y.n ta tc rfl ?_)
          | (refine wpList_append_eq rfl _ _ _ rfl _ _ _ rfl rfl hrun ?_)
          | fail)
        go_roundw
        case rel => exact ⟨i, k + 1, a', on + 1, c', zs ++ [⟨y.n, ta, tc⟩], by go_num, by go_num, by go_num, by omega, by omega, MA9, MS9⟩
        case measure => simp [intOf]; omega
      · have t2 : decide ((k : Int) < (mn : Int)) = false := by simp; omega
        have UU : Hid (IsU l m (zs.map LN.n)) := Lib.hid (MS.out.all (by rw [HLN.out]; omega) (by rw [HMN.out]; omega))
        have t4 : decide ((400 : Int) < (on : Int)) = false := by have := HON.out; simp; omega
        clear HXI HYK
        go_wp2_with fail
        go_returns
        exact ⟨.good (by rw [HE.out] <;> rfl) HE.out MA.out.rd UU.out, BW.out⟩
end Go.Proofs.YtpjiakgfegnmcaaGreat
namespace Go.Proofs.YtpjiakgfegnmcaaGreat
set_option linter.unusedSimpArgs false
open Go.RowKit

set_option maxHeartbeats 8000000 in
set_option maxRecDepth 100000 in
theorem sameNotes_eq (l : List NoteV) (a : Option Addr) (nn nc : Nat) (ma : Option Addr) (mn mc : Nat) (w : World) (hr : RdNs w a nn nc l) (hm : RdNs w ma mn mc l) :
    Calls Tryz.prog 42 #[.slice a nn nc, .slice ma mn mc] w fun e w' => e = .returned (.bool true) ∧ Below w.heap.size w w' := by
  have J19 : (Tryz.prog.info? 51).map (·.size) = some 19 := by kernel_rfl
  obtain rfl : nn = mn := hr.1.symm.trans hm.1
  obtain ⟨xs, hxs, hrl⟩ := hr.choose
  have RL := Lib.hid hrl
  have HXS := Lib.hid hxs
  have LNX := Lib.hid hrl.1
  have LOK := Lib.hid (show ∀ W, Below w.heap.size w W → ∀ x ∈ xs, x.ok W from fun W hb x hx => (ls_ok hrl hx).below hb)
  obtain ⟨ys, hys, hml⟩ := hm.choose
  have ML := Lib.hid hml
  have HYS := Lib.hid hys
  have LMY := Lib.hid hml.1
  have MOK := Lib.hid (show ∀ W, Below w.heap.size w W → ∀ x ∈ ys, x.ok W from fun W hb x hx => (ls_ok hml hx).below hb)
  have hn63 : nn ≤ 9223372036854775807 := by have h1 := hr.2.1; have h2 := hr.2.2.1; unfold maxLen at h2; omega
  have tne : ((nn : Int) != (nn : Int)) = false := by simp
  clear hr hm hxs hrl hys hml
  go_enter Tryz.func42, Tryz.ntmps42
  go_wp2_with fail
  clear tne
  go_loopw [5] (fun i wr => ∃ (k : Nat), i = .int .i64 (k : Int) ∧ k ≤ nn ∧ Hid (Below w.heap.size w wr)) (fun i _ => nn - (intOf i).toNat)
  case atStart => exact ⟨0, rfl, Nat.zero_le _, Lib.hid (Below.refl _ _)⟩
  case round =>
    obtain ⟨k, rfl, hk, BB⟩ := hrel
    by_cases hlt : k < nn
    · have t0 : decide ((k : Int) < (nn : Int)) = true := by simp; omega
      obtain ⟨x, Hx⟩ : ∃ x, xs[k]? = some x := ⟨_, List.getElem?_eq_getElem (by rw [LNX.out]; exact hlt)⟩
      obtain ⟨y, Hy⟩ : ∃ y, ys[k]? = some y := ⟨_, List.getElem?_eq_getElem (by rw [LMY.out]; exact hlt)⟩
      have EQ : Hid (sameB x.n y.n = true) := Lib.hid (by
        have h1 : l[k]? = some x.n := by rw [← HXS.out, List.getElem?_map, Hx]; rfl
        have h2 : l[k]? = some y.n := by rw [← HYS.out, List.getElem?_map, Hy]; rfl
        rw [h1] at h2
        rw [← Option.some.inj h2]
        exact sameB_self _)
      obtain ⟨b, off, rfl, hat⟩ := (RL.out.below BB.out).at (by omega)
      have HX := Lib.hid (hat k x Hx).1
      obtain ⟨o, ho⟩ : ∃ o, Hid (off + k * 19 = o) := ⟨_, Lib.hid rfl⟩
      rw [ho.out] at HX
      have HIX := Lib.hid (fun W => idx_off (W := W) (c := nc) (b := b) Tryz.underlying43 J19 hlt ho.out)
      obtain ⟨b2, off2, rfl, hat2⟩ := (ML.out.below BB.out).at (by omega)
      obtain ⟨o2, ho2⟩ : ∃ o, Hid (off2 + k * 19 = o) := ⟨_, Lib.hid rfl⟩
      have HY := Lib.hid (hat2 k y Hy).1
      rw [ho2.out] at HY
      have HIY := Lib.hid (fun W => idx_off (W := W) (c := mc) (b := b2) Tryz.underlying43 J19 hlt ho2.out)
      have XOK := Lib.hid (LOK.out wr BB.out x (List.mem_of_getElem? Hx))
      have YOK := Lib.hid (MOK.out wr BB.out y (List.mem_of_getElem? Hy))
      have HK64 : Hid ((k : Int) + 1 ≤ 9223372036854775807) := Lib.hid (by omega)
      have LX := Lib.hid (show ∀ w0, Below wr.heap.size wr w0 → w0.rangeAt b o (x.n.cells x.sa x.sc) from fun w0 h => rangeAt_below HX.out h)
      have LY := Lib.hid (show ∀ w0, Below wr.heap.size wr w0 → w0.rangeAt b2 o2 (y.n.cells y.sa y.sc) from fun w0 h => rangeAt_below HY.out h)
      have hC0 : Below wr.heap.size wr wr.drew := (Below.refl _ _).drew
      clear hat Hx hat2 Hy
      go_upto_region 6 with fail
      clear t0
      try simp only [Act.put, lq3, lq4, lq5]
      refine wp_region_quiet (C := fun w' : World => Below wr.heap.size wr w') (by kernel_rfl) (by kernel_rfl) hC0 ?_
      show wpQuiet _ _ _ _ (_ :: _) _
      go_big_quiet_want
      go_big_quiet_op
      go_big_quiet_on
      go_big_quiet_want
      go_big_quiet_op
      go_big_quiet_on
      go_big_quiet_want
      refine ⟨.pointer (some ⟨b, o, none⟩), fun w0 hC => ?_, ?_⟩
      · have hix := HIX.out w0
        clear hC
        go_simp
      simp only [Act.put, lq3, lq4, lq5]
      go_big_quiet_on
      go_big_quiet_want
      refine ⟨.agg (noteA x.n x.sa x.sc), fun w0 hC => quiet_load_note (.tmp 19) rfl b o rfl x.n x.sa x.sc (LX.out w0 hC), ?_⟩
      simp only [Act.put, lq3, lq4, lq5]
      go_big_quiet_on
      go_big_quiet_want
      go_big_quiet_op
      go_big_quiet_on
      go_big_quiet_want
      go_big_quiet_op
      go_big_quiet_on
      go_big_quiet_want
      refine ⟨.pointer (some ⟨b2, o2, none⟩), fun w0 hC => ?_, ?_⟩
      · have hix := HIY.out w0
        clear hC
        go_simp
      simp only [Act.put, lq3, lq4, lq5]
      go_big_quiet_on
      go_big_quiet_want
      refine ⟨.agg (noteA y.n y.sa y.sc), fun w0 hC => quiet_load_note (.tmp 23) rfl b2 o2 rfl y.n y.sa y.sc (LY.out w0 hC), ?_⟩
      simp only [Act.put, lq3, lq4, lq5]
      go_big_quiet_on
      go_big_quiet_want
      refine ⟨.bool true, fun w0 hC => ?_, ?_⟩
      · go_simp
        refine (rsame_any x.n y.n x.sa x.sc y.sa y.sc w0 (XOK.out.below hC) (YOK.out.below hC)).mono ?_
        rintro e w1 ⟨rfl, b1⟩
        exact ⟨by rw [EQ.out], hC.trans (b1.mono hC.size)⟩
      simp only [Act.put, lq3, lq4, lq5]
      go_big_quiet_on
      go_big_quiet_want
      refine ⟨.bool false, fun w0 hC => ?_, ?_⟩
      · clear hC
        go_simp
      simp only [Act.put, lq3, lq4, lq5]
      go_big_quiet_on
      refine wpQuiet_nil ?_
      intro w' hC
      have BB2 := Lib.hid (BB.out.trans (hC.mono BB.out.size))
      clear hC LX LY XOK YOK HX HY BB
      have hk64 := HK64.out
      go_wp2_with fail
      go_roundw
      case rel => exact ⟨k + 1, by go_num, by omega, BB2⟩
      case measure => simp [intOf]; omega
    · have t0 : decide ((k : Int) < (nn : Int)) = false := by simp; omega
      go_wp2_with fail
      go_ret
      exact ⟨rfl, BB.out⟩
end Go.Proofs.YtpjiakgfegnmcaaGreat
namespace Go.Proofs.YtpjiakgfegnmcaaGreat
set_option linter.unusedSimpArgs false
open Go.RowKit

structure HmAt (w W : World) (pF : Nat) (f : FrV) : Prop where
  bel : Below w.heap.size w W
  fr : W.heap[pF]? = some (.cells #[.int .i64 f.rings, .int .i64 f.sectors, .int .i64 f.wide] 23 (0, 0))
theorem HmAt.below {w W W' : World} {pF : Nat} {f : FrV} (h : HmAt w W pF f) (hb : Below W.heap.size W W') : HmAt w W' pF f :=
  ⟨h.bel.trans (hb.mono h.bel.size), below_blk hb h.fr⟩
theorem few_set {f : FrV} {l : List NoteV} (h : fewB l = true) (hs : (checkSetP f l).1 = 0) : l.length ≤ 60 := by
  have h2 := (set_ok hs).2.1
  unfold fewB fewN at h
  simp at h
  omega
theorem merge_mem {f : FrV} {l m u : List NoteV} (h1 : mergeE f l m = 0 → IsU l m u) (h2 : mergeE f l m ≠ 0 → u = []) : ∀ x ∈ u, x ∈ l ∨ x ∈ m := fun x hx => by
  by_cases h : mergeE f l m = 0
  · exact ((h1 h).2 x).1 hx
  · rw [h2 h] at hx; cases hx
theorem merge_eq {f : FrV} {l m u v : List NoteV} (h1 : mergeE f l m = 0 → IsU l m u) (h2 : mergeE f l m ≠ 0 → u = []) (h3 : mergeE f l m = 0 → IsU l m v) (h4 : mergeE f l m ≠ 0 → v = []) : u = v := by
  by_cases h : mergeE f l m = 0
  · exact (h1 h).uniq (h3 h)
  · rw [h2 h, h4 h]

set_option maxHeartbeats 16000000 in
set_option maxRecDepth 100000 in
theorem hmerges_any (f : FrV) (a : Option Addr) (nn nc : Nat) (l : List NoteV) (ma : Option Addr) (mn mc : Nat) (m : List NoteV) (w : World) (hr : RdNs w a nn nc l) (hok : ∀ y ∈ l, y.Ok) (hm : RdNs w ma mn mc m) (hokm : ∀ y ∈ m, y.Ok) :
    Calls Tryz.prog 8 #[f.val, .slice a nn nc, .slice ma mn mc] w fun e w' => e = .returned (.bool true) ∧ Below w.heap.size w w' := by
  have hvl : f.val = .agg #[.int .i64 f.rings, .int .i64 f.sectors, .int .i64 f.wide] := rfl
  have PM := Lib.hid (fun hlen (W : World) (hr : RdNs W a nn nc l) (hm : RdNs W ma mn mc m) => pmerge_any f a nn nc l ma mn mc m W hr hok hm hokm hlen)
  have RMG := Lib.hid (fun hlen (W : World) (hr : RdNs W a nn nc l) (hm : RdNs W ma mn mc m) => rmerge_any f a nn nc l ma mn mc m W hr hm hlen)
  have PF := Lib.hid (fun (W : World) (hr : RdNs W a nn nc l) (hm : RdNs W ma mn mc m) => pfork_any f a nn nc l ma mn mc m W hr hok hm hokm)
  have RF := Lib.hid (fun (W : World) (hr : RdNs W a nn nc l) (hm : RdNs W ma mn mc m) => rfork_any f a nn nc l ma mn mc m W hr hm)
  rw [hvl] at PM RMG PF RF ⊢; clear hvl
  unfold MergeRet at PM RMG
  unfold ForkRet at PF RF
  obtain ⟨vF, hvF⟩ : ∃ z, Hid (forkV f l m = z) := ⟨_, Lib.hid rfl⟩
  obtain ⟨mE, hmE⟩ : ∃ z, Hid (mergeE f l m = z) := ⟨_, Lib.hid rfl⟩
  have HU := Lib.hid (fun (u v : List NoteV) => merge_eq (f := f) (l := l) (m := m) (u := u) (v := v))
  rw [hvF.out] at PF RF
  rw [hmE.out] at PM RMG HU
  have GG : Hid ((mE == mE) = true ∧ (vF.2 == vF.2) = true) := Lib.hid (by simp)
  have R := Lib.hid hr
  have M := Lib.hid hm
  clear hr hok hm hokm
  have B0 := Lib.hid ((Below.refl w.heap.size w).alloc (Nat.le_refl _) (.cells #[.int .i64 f.rings, .int .i64 f.sectors, .int .i64 f.wide] 23))
  have F0 := Lib.hid (heap_last w (.cells #[.int .i64 f.rings, .int .i64 f.sectors, .int .i64 f.wide] 23))
  go_enter Tryz.func8, Tryz.ntmps8
  go_upto_region 1 with fail
  obtain ⟨pF, hpF⟩ : ∃ p, Hid (w.heap.size = p) := ⟨_, Lib.hid rfl⟩
  rw [hpF.out] at F0 ⊢
  generalize w.alloc (.cells #[.int .i64 f.rings, .int .i64 f.sectors, .int .i64 f.wide] 23) = W0 at *
  have ST : Hid (HmAt w W0 pF f) := Lib.hid ⟨B0.out, F0.out⟩
  clear B0 F0
  go_wp2_with fail
  refine (hawake_any _).mono ?_
  rintro e W1 ⟨rfl, b1⟩
  replace ST := Lib.hid (ST.out.below b1)
  clear b1
  go_wp2_with fail
  refine (few_any a nn nc l _ (R.out.below ST.out.bel)).mono ?_
  rintro e W2 ⟨rfl, rfl⟩
  cases hq : fewB l
  · clear hq
    go_wp2_with fail
    go_ret
    exact ⟨rfl, ST.out.bel⟩
  have HQ := Lib.hid hq
  clear hq
  go_wp2_with fail
  refine (few_any ma mn mc m _ (M.out.below ST.out.bel)).mono ?_
  rintro e W2 ⟨rfl, rfl⟩
  cases hq : fewB m
  · clear hq
    go_wp2_with fail
    go_ret
    exact ⟨rfl, ST.out.bel⟩
  have HLEN := Lib.hid (show (checkSetP f l).1 = 0 → (checkSetP f m).1 = 0 → l.length + m.length ≤ 400 from fun h1 h2 => by have := few_set HQ.out h1; have := few_set hq h2; omega)
  clear hq
  have c0 := cell_of ST.out.fr 0 (.int .i64 f.rings) rfl
  have c1 := cell_of ST.out.fr 1 (.int .i64 f.sectors) rfl
  have c2 := cell_of ST.out.fr 2 (.int .i64 f.wide) rfl
  go_wp2_with fail
  refine (PM.out HLEN.out _ (R.out.below ST.out.bel) (M.out.below ST.out.bel)).mono ?_
  rintro e W3 ⟨⟨ua1, un1, uc1, u1, rfl, h1, h2, h3⟩, bb⟩
  have RU1 := Lib.hid h1
  have GU1 := Lib.hid h2
  have BU1 := Lib.hid h3
  replace ST := Lib.hid (ST.out.below bb)
  clear h1 h2 h3 bb c0 c1 c2
  have c0 := cell_of ST.out.fr 0 (.int .i64 f.rings) rfl
  have c1 := cell_of ST.out.fr 1 (.int .i64 f.sectors) rfl
  have c2 := cell_of ST.out.fr 2 (.int .i64 f.wide) rfl
  go_wp2_with fail
  refine (RMG.out HLEN.out _ (R.out.below ST.out.bel) (M.out.below ST.out.bel)).mono ?_
  rintro e W4 ⟨⟨ua2, un2, uc2, u2, rfl, h1, h2, h3⟩, bb⟩
  have RU2 := Lib.hid h1
  have GU2 := Lib.hid h2
  have BU2 := Lib.hid h3
  replace ST := Lib.hid (ST.out.below bb)
  replace RU1 := Lib.hid (RU1.out.below bb)
  clear h1 h2 h3 bb c0 c1 c2
  obtain rfl : u1 = u2 := HU.out u1 u2 GU1.out BU1.out GU2.out BU2.out
  clear GU1 BU1 GU2 BU2
  have c0 := cell_of ST.out.fr 0 (.int .i64 f.rings) rfl
  have c1 := cell_of ST.out.fr 1 (.int .i64 f.sectors) rfl
  have c2 := cell_of ST.out.fr 2 (.int .i64 f.wide) rfl
  go_wp2_with fail
  refine (PF.out _ (R.out.below ST.out.bel) (M.out.below ST.out.bel)).mono ?_
  rintro e W5 ⟨rfl, bb⟩
  replace ST := Lib.hid (ST.out.below bb)
  replace RU1 := Lib.hid (RU1.out.below bb)
  replace RU2 := Lib.hid (RU2.out.below bb)
  clear bb c0 c1 c2
  go_upto_region 7 with fail
  have bb : Below W5.heap.size W5 (W5.alloc (.cells #[.int .i64 vF.1.1, .int .i64 vF.1.2] 29)) := (Below.refl _ _).alloc (Nat.le_refl _) _
  replace ST := Lib.hid (ST.out.below bb)
  have P1 := Lib.hid (heap_last W5 (.cells #[.int .i64 vF.1.1, .int .i64 vF.1.2] 29))
  replace RU1 := Lib.hid (RU1.out.below bb)
  replace RU2 := Lib.hid (RU2.out.below bb)
  clear bb
  obtain ⟨p1, hp1⟩ : ∃ p, Hid (W5.heap.size = p) := ⟨_, Lib.hid rfl⟩
  rw [hp1.out] at P1 ⊢
  generalize W5.alloc (.cells #[.int .i64 vF.1.1, .int .i64 vF.1.2] 29) = W6 at *
  have c0 := cell_of ST.out.fr 0 (.int .i64 f.rings) rfl
  have c1 := cell_of ST.out.fr 1 (.int .i64 f.sectors) rfl
  have c2 := cell_of ST.out.fr 2 (.int .i64 f.wide) rfl
  go_wp2_with fail
  refine (RF.out _ (R.out.below ST.out.bel) (M.out.below ST.out.bel)).mono ?_
  rintro e W7 ⟨rfl, bb⟩
  replace ST := Lib.hid (ST.out.below bb)
  replace RU1 := Lib.hid (RU1.out.below bb)
  replace RU2 := Lib.hid (RU2.out.below bb)
  replace P1 := Lib.hid (below_blk bb P1.out)
  clear bb c0 c1 c2
  go_upto_region 8 with fail
  have bb : Below W7.heap.size W7 (W7.alloc (.cells #[.int .i64 vF.1.1, .int .i64 vF.1.2] 29)) := (Below.refl _ _).alloc (Nat.le_refl _) _
  replace ST := Lib.hid (ST.out.below bb)
  have P2 := Lib.hid (heap_last W7 (.cells #[.int .i64 vF.1.1, .int .i64 vF.1.2] 29))
  replace RU1 := Lib.hid (RU1.out.below bb)
  replace RU2 := Lib.hid (RU2.out.below bb)
  replace P1 := Lib.hid (below_blk bb P1.out)
  clear bb
  obtain ⟨p2, hp2⟩ : ∃ p, Hid (W7.heap.size = p) := ⟨_, Lib.hid rfl⟩
  rw [hp2.out] at P2 ⊢
  generalize W7.alloc (.cells #[.int .i64 vF.1.1, .int .i64 vF.1.2] 29) = W8 at *
  go_wp2_with fail
  refine (sameNotes_eq u1 ua1 un1 uc1 ua2 un2 uc2 _ RU1.out RU2.out).mono ?_
  rintro e W9 ⟨rfl, bb⟩
  replace ST := Lib.hid (ST.out.below bb)
  replace P1 := Lib.hid (below_blk bb P1.out)
  replace P2 := Lib.hid (below_blk bb P2.out)
  clear bb RU1 RU2
  have g1 := GG.out.1
  have g2 := GG.out.2
  have n0 := cell_of P1.out 0 (.int .i64 vF.1.1) rfl
  have n1 := cell_of P1.out 1 (.int .i64 vF.1.2) rfl
  have o0 := cell_of P2.out 0 (.int .i64 vF.1.1) rfl
  have o1 := cell_of P2.out 1 (.int .i64 vF.1.2) rfl
  go_wp2_with fail
  go_ret
  exact ⟨rfl, ST.out.bel⟩
end Go.Proofs.YtpjiakgfegnmcaaGreat
namespace Go.Proofs.YtpjiakgfegnmcaaGreat
open Go.ChangeShapes Go.WideShapes Go.ChangeAt Go.RowKit

set_option maxRecDepth 100000 in
theorem historyMerges_lifted (os : Os) (started : os.Started) (H : Type) (enc : TypeId × Value → H) :
    ReturnsInHanded {} Tryz.checked os 8 .any (Rows.historyMergesSpec.pre6 enc Tryz.prog Tryz.f8 Rows.historyMergesRow.domain false) (Rows.historyMergesSpec.post enc Tryz.prog Tryz.f8 false true false false) := by
  refine returnsInHanded_of_change (C := Tryz.checked) Tryz.own started (by kernel_rfl) Tryz.func8
    (ChangeSpec.witness6 (enc := enc) (C := Tryz.checked) false ⟨#[], #[.agg #[.int .i64 0, .int .i64 0, .int .i64 0], .slice none 0 0, .slice none 0 0], []⟩ 8 (by kernel_rfl) (by kernel_rfl) (by kernel_rfl) (by kernel_rfl)) ?_
  intro W base args ds gs before hval0 hW hcnd _
  have hval : ∀ (j : Nat) t v, Tryz.f8.params[j]? = some t → args[j]? = some v → Value.okWide Tryz.prog W .any base t v := hval0
  have hW' := hW
  obtain ⟨p, q, hA0, hV, rfl, hfz, hnd⟩ := hW
  have hA : DataW.TrodAll enc Tryz.prog W 0 (fun _ => true) true Tryz.f8.params.toList args.toList ds p := hA0
  have hA1 := hA
  rw [Tryz.params8] at hA hval
  obtain ⟨v0, v1, v2, d0, d1, d2, p0, p1, p2, rfl, rfl, rfl, h0, h1, h2⟩ := trodAll_three hA
  obtain ⟨rfl, rfl⟩ := trodVars_none hV
  obtain ⟨f, rfl⟩ := hopen_frame (hval 0 23 v0 rfl rfl) h0
  obtain ⟨a, n, c, l, rfl, r1, r2⟩ := open_notes (hval 1 43 v1 rfl rfl) h1
  obtain ⟨a2, n2, c2, m, rfl, r3, r4⟩ := open_notes (hval 2 43 v2 rfl rfl) h2
  clear hA0 hval0
  simp only [List.append_nil] at hW'
  refine (hmerges_any f a n c l a2 n2 c2 m W r1 r2 r3 r4).mono fun e W' ⟨he, hb⟩ => ?_
  subst he
  exact ⟨_, rfl, post_of_law Tryz.laidOut Tryz.underlying4 rfl (by kernel_rfl) (by kernel_rfl) hW' hA1 rfl hb⟩

theorem historyMerges_holds : Rows.HistoryMergesSaid :=
  OpenClaim.holds_of_wide 8 Tryz.f8 rfl rfl rfl rfl rfl rfl rfl ⟨rfl, rfl, rfl, rfl, rfl⟩ rfl rfl rfl rfl rfl (by kernel_rfl) Tryz.func8 (by kernel_rfl)
    (of_decide_eq_true (by kernel_rfl)) (by unfold Func.isWrapper; first | (rw [if_pos (by decide +kernel)]; kernel_rfl) | (rw [if_neg (by decide +kernel)]; exact ⟨rfl, rfl⟩))
    (fun os started H enc _ => historyMerges_lifted os started H enc)
#print axioms historyMerges_holds
end Go.Proofs.YtpjiakgfegnmcaaGreat
namespace Go.Proofs.YtpjiakgfegnmcaaGreat
set_option linter.unusedSimpArgs false
set_option linter.unusedVariables false

theorem mergeE_zero {f : FrV} {l m : List NoteV} (h : mergeE f l m = 0) : (checkSetP f l).1 = 0 ∧ (checkSetP f m).1 = 0 ∧ NoFork l m := by
  rcases forkV_cases f l m with ⟨_, _, he⟩ | ⟨h1, h2, ⟨a, _, _, he⟩ | ⟨h3, _, _⟩⟩
  · rw [he] at h; cases h
  · rw [he] at h; cases h
  · exact ⟨h1, h2, forkAt_none.1 h3⟩
theorem mergeE_bad {f : FrV} {l m : List NoteV} (h : ¬ ((checkSetP f l).1 = 0 ∧ (checkSetP f m).1 = 0)) : mergeE f l m = 1 := by unfold mergeE; rw [if_neg h]
theorem mergeE_good {f : FrV} {l m : List NoteV} (h : (checkSetP f l).1 = 0) (h2 : (checkSetP f m).1 = 0) (h3 : NoFork l m) : mergeE f l m = 0 := by unfold mergeE; rw [if_pos ⟨h, h2⟩, forkAt_none.2 h3]
theorem mergeE_fork {f : FrV} {l m : List NoteV} (h : (checkSetP f l).1 = 0) (h2 : (checkSetP f m).1 = 0) (h3 : ¬ NoFork l m) : mergeE f l m = 81 := by
  unfold mergeE
  rw [if_pos ⟨h, h2⟩]
  cases h4 : forkAt l m with
  | none => exact absurd (forkAt_none.1 h4) h3
  | some a => rfl
theorem mergeE_eq {f : FrV} {l m l' m' : List NoteV} (hs : ((checkSetP f l).1 = 0 ∧ (checkSetP f m).1 = 0) ↔ ((checkSetP f l').1 = 0 ∧ (checkSetP f m').1 = 0)) (hn : NoFork l m ↔ NoFork l' m') : mergeE f l m = mergeE f l' m' := by
  by_cases h : (checkSetP f l).1 = 0 ∧ (checkSetP f m).1 = 0
  · have h' := hs.1 h
    by_cases h2 : NoFork l m
    · rw [mergeE_good h.1 h.2 h2, mergeE_good h'.1 h'.2 (hn.1 h2)]
    · rw [mergeE_fork h.1 h.2 h2, mergeE_fork h'.1 h'.2 (fun h3 => h2 (hn.2 h3))]
  · rw [mergeE_bad h, mergeE_bad (fun h2 => h (hs.2 h2))]
theorem mergeE_comm (f : FrV) (l m : List NoteV) : mergeE f m l = mergeE f l m := mergeE_eq And.comm ⟨NoFork.comm, NoFork.comm⟩
theorem merge_comm {f : FrV} {l m u v : List NoteV} (h1 : mergeE f l m = 0 → IsU l m u) (h2 : mergeE f l m ≠ 0 → u = []) (h3 : mergeE f m l = 0 → IsU m l v) (h4 : mergeE f m l ≠ 0 → v = []) : u = v := by
  rw [mergeE_comm] at h3 h4
  exact merge_eq h1 h2 (fun h => (h3 h).comm) h4
theorem fork_iff (f : FrV) (l m : List NoteV) : ((forkV f l m).2 == 0) = (mergeE f l m == 81) := by
  rcases forkV_cases f l m with ⟨_, h1, h2⟩ | ⟨_, _, ⟨a, _, h1, h2⟩ | ⟨_, h1, h2⟩⟩ <;> rw [h1, h2] <;> rfl
theorem noFork_self {l : List NoteV} (h : l.Pairwise ltN) : NoFork l l := fun x hx y hy e => nodup_inj (set_nodup h) hx hy e
theorem mergeE_self {f : FrV} {l : List NoteV} : mergeE f l l = if (checkSetP f l).1 = 0 then 0 else 1 := by
  by_cases h : (checkSetP f l).1 = 0
  · rw [if_pos h, mergeE_good h h (noFork_self (set_ok h).2.2.2)]
  · rw [if_neg h, mergeE_bad (fun h2 => h h2.1)]
theorem merge_len {f : FrV} {l m u : List NoteV} (fl : fewB l = true) (fm : fewB m = true) (h1 : mergeE f l m = 0 → IsU l m u) (h2 : mergeE f l m ≠ 0 → u = []) : u.length ≤ 120 := by
  by_cases h : mergeE f l m = 0
  · have h3 := (h1 h).len
    have h4 := mergeE_zero h
    have h5 := few_set fl h4.1
    have h6 := few_set fm h4.2.1
    omega
  · rw [h2 h]; exact Nat.zero_le _
theorem merge_assoc {f : FrV} {l m c u v p q : List NoteV} (h0 : mergeE f l m = 0) (hu : IsU l m u) (hl : u.length ≤ 400) (h1 : mergeE f m c = 0) (hv : IsU m c v) (hl2 : v.length ≤ 400)
    (hp : mergeE f u c = 0 → IsU u c p) (hp2 : mergeE f u c ≠ 0 → p = []) (hq : mergeE f l v = 0 → IsU l v q) (hq2 : mergeE f l v ≠ 0 → q = []) : mergeE f u c = mergeE f l v ∧ p = q := by
  obtain ⟨sl, sm, n1⟩ := mergeE_zero h0
  obtain ⟨_, sc, n2⟩ := mergeE_zero h1
  have su := hu.set sl sm hl
  have sv := hv.set sm sc hl2
  have e1 : NoFork u c ↔ NoFork l c := by
    constructor
    · intro h x hx y hy e; exact h x ((hu.2 x).2 (.inl hx)) y hy e
    · intro h x hx y hy e
      rcases (hu.2 x).1 hx with hx | hx
      · exact h x hx y hy e
      · exact n2 x hx y hy e
  have e2 : NoFork l v ↔ NoFork l c := by
    constructor
    · intro h x hx y hy e; exact h x hx y ((hv.2 y).2 (.inr hy)) e
    · intro h x hx y hy e
      rcases (hv.2 y).1 hy with hy | hy
      · exact n1 x hx y hy e
      · exact h x hx y hy e
  have e : mergeE f u c = mergeE f l v := mergeE_eq ⟨fun _ => ⟨sl, sv⟩, fun _ => ⟨su, sc⟩⟩ (e1.trans e2.symm)
  refine ⟨e, ?_⟩
  by_cases h : mergeE f u c = 0
  · have a1 := hp h
    have a2 := hq (by rw [← e]; exact h)
    refine sortedN_eq a1.1 a2.1 fun x => ?_
    rw [a1.2 x, a2.2 x, hu.2 x, hv.2 x, or_assoc]
  · rw [hp2 h, hq2 (by rw [← e]; exact h)]
end Go.Proofs.YtpjiakgfegnmcaaGreat
namespace Go.Proofs.YtpjiakgfegnmcaaGreat
set_option linter.unusedSimpArgs false
open Go.RowKit

set_option maxHeartbeats 32000000 in
set_option maxRecDepth 100000 in
theorem hunion_any (f : FrV) (a : Option Addr) (nn nc : Nat) (l : List NoteV) (ma : Option Addr) (mn mc : Nat) (m : List NoteV) (ka : Option Addr) (kn kc : Nat) (c : List NoteV) (w : World) (hr : RdNs w a nn nc l) (hok : ∀ y ∈ l, y.Ok) (hm : RdNs w ma mn mc m) (hokm : ∀ y ∈ m, y.Ok) (hc : RdNs w ka kn kc c) (hokc : ∀ y ∈ c, y.Ok) :
    Calls Tryz.prog 9 #[f.val, .slice a nn nc, .agg #[.slice ma mn mc, .slice ka kn kc]] w fun e w' => e = .returned (.bool true) ∧ Below w.heap.size w w' := by
  have hvl : f.val = .agg #[.int .i64 f.rings, .int .i64 f.sectors, .int .i64 f.wide] := rfl
  have PM := Lib.hid (fun (a : Option Addr) (nn nc : Nat) (l : List NoteV) (ma : Option Addr) (mn mc : Nat) (m : List NoteV) (W : World) (hr : RdNs W a nn nc l) (hok : ∀ y ∈ l, y.Ok) (hm : RdNs W ma mn mc m) (hokm : ∀ y ∈ m, y.Ok) hlen => pmerge_any f a nn nc l ma mn mc m W hr hok hm hokm hlen)
  have PF := Lib.hid (fun (W : World) (hr : RdNs W a nn nc l) (hm : RdNs W ma mn mc m) => pfork_any f a nn nc l ma mn mc m W hr hok hm hokm)
  have CS := Lib.hid (fun (a : Option Addr) (nn nc : Nat) (l : List NoteV) (W : World) (hr : RdNs W a nn nc l) => checkSet_any f a nn nc l W hr)
  rw [hvl] at PM PF CS ⊢; clear hvl
  unfold MergeRet at PM
  unfold ForkRet at PF
  obtain ⟨vF, hvF⟩ : ∃ z, Hid (forkV f l m = z) := ⟨_, Lib.hid rfl⟩
  rw [hvF.out] at PF
  have R := Lib.hid hr
  have M := Lib.hid hm
  have C := Lib.hid hc
  have HOK := Lib.hid hok
  have HOKM := Lib.hid hokm
  have HOKC := Lib.hid hokc
  clear hr hok hm hokm hc hokc
  have B0 := Lib.hid (((Below.refl w.heap.size w).alloc (Nat.le_refl _) (.cells #[.int .i64 f.rings, .int .i64 f.sectors, .int .i64 f.wide] 23)).alloc (by simp) (.cells #[.slice ma mn mc, .slice ka kn kc] 76))
  have F0 := Lib.hid (heap_before _ (.cells #[.slice ma mn mc, .slice ka kn kc] 76) _ _ (heap_last w (.cells #[.int .i64 f.rings, .int .i64 f.sectors, .int .i64 f.wide] 23)))
  have T0 := Lib.hid (heap_at (w.alloc (.cells #[.int .i64 f.rings, .int .i64 f.sectors, .int .i64 f.wide] 23)) (.cells #[.slice ma mn mc, .slice ka kn kc] 76) (w.heap.size + 1) (by simp))
  go_enter Tryz.func9, Tryz.ntmps9
  go_upto_region 1 with fail
  obtain ⟨pF, hpF⟩ : ∃ p, Hid (w.heap.size = p) := ⟨_, Lib.hid rfl⟩
  obtain ⟨p5, hp5⟩ : ∃ p, Hid (w.heap.size + 1 = p) := ⟨_, Lib.hid rfl⟩
  rw [hpF.out] at F0
  rw [hp5.out] at T0
  rw [hp5.out, hpF.out]
  generalize (w.alloc (.cells #[.int .i64 f.rings, .int .i64 f.sectors, .int .i64 f.wide] 23)).alloc (.cells #[.slice ma mn mc, .slice ka kn kc] 76) = W0 at *
  have ST : Hid (HmAt w W0 pF f) := Lib.hid ⟨B0.out, F0.out⟩
  clear B0 F0
  go_wp2_with fail
  refine (hawake_any _).mono ?_
  rintro e W1 ⟨rfl, b1⟩
  replace ST := Lib.hid (ST.out.below b1)
  have T1 := Lib.hid (below_blk b1 T0.out)
  clear b1 T0
  have t0 := cell_of T1.out 0 (.slice ma mn mc) rfl
  have t1 := cell_of T1.out 1 (.slice ka kn kc) rfl
  go_wp2_with fail
  refine (few_any a nn nc l _ (R.out.below ST.out.bel)).mono ?_
  rintro e W2 ⟨rfl, rfl⟩
  clear t0 t1 T1
  cases hq : fewB l
  · clear hq
    go_wp2_with fail
    go_ret
    exact ⟨rfl, ST.out.bel⟩
  have FL := Lib.hid hq
  clear hq
  go_wp2_with fail
  refine (few_any ma mn mc m _ (M.out.below ST.out.bel)).mono ?_
  rintro e W2 ⟨rfl, rfl⟩
  cases hq : fewB m
  · clear hq
    go_wp2_with fail
    go_ret
    exact ⟨rfl, ST.out.bel⟩
  have FM := Lib.hid hq
  clear hq
  go_wp2_with fail
  refine (few_any ka kn kc c _ (C.out.below ST.out.bel)).mono ?_
  rintro e W2 ⟨rfl, rfl⟩
  cases hq : fewB c
  · clear hq
    go_wp2_with fail
    go_ret
    exact ⟨rfl, ST.out.bel⟩
  have FC := Lib.hid hq
  clear hq
  have LEN2 : Hid (∀ x y : List NoteV, fewB x = true → fewB y = true → (checkSetP f x).1 = 0 → (checkSetP f y).1 = 0 → x.length + y.length ≤ 400) := Lib.hid (fun x y h1 h2 h3 h4 => by have := few_set h1 h3; have := few_set h2 h4; omega)
  have c0 := cell_of ST.out.fr 0 (.int .i64 f.rings) rfl
  have c1 := cell_of ST.out.fr 1 (.int .i64 f.sectors) rfl
  have c2 := cell_of ST.out.fr 2 (.int .i64 f.wide) rfl
  go_wp2_with fail
  refine (PM.out a nn nc l ma mn mc m _ (R.out.below ST.out.bel) HOK.out (M.out.below ST.out.bel) HOKM.out (LEN2.out l m FL.out FM.out)).mono ?_
  rintro e W3 ⟨⟨ua1, un1, uc1, u1, rfl, h1, h2, h3⟩, bb⟩
  have RU1 := Lib.hid h1
  have GU1 := Lib.hid h2
  have BU1 := Lib.hid h3
  replace ST := Lib.hid (ST.out.below bb)
  clear h1 h2 h3 bb c0 c1 c2
  have c0 := cell_of ST.out.fr 0 (.int .i64 f.rings) rfl
  have c1 := cell_of ST.out.fr 1 (.int .i64 f.sectors) rfl
  have c2 := cell_of ST.out.fr 2 (.int .i64 f.wide) rfl
  go_wp2_with fail
  refine (PM.out ma mn mc m a nn nc l _ (M.out.below ST.out.bel) HOKM.out (R.out.below ST.out.bel) HOK.out (LEN2.out m l FM.out FL.out)).mono ?_
  rintro e W4 ⟨⟨ua2, un2, uc2, u2, rfl, h1, h2, h3⟩, bb⟩
  have RU2 := Lib.hid h1
  have GU2 := Lib.hid h2
  have BU2 := Lib.hid h3
  replace ST := Lib.hid (ST.out.below bb)
  replace RU1 := Lib.hid (RU1.out.below bb)
  clear h1 h2 h3 bb c0 c1 c2
  obtain rfl : u1 = u2 := merge_comm GU1.out BU1.out GU2.out BU2.out
  clear GU2 BU2
  rw [mergeE_comm]
  obtain ⟨mE, hmE⟩ : ∃ z, Hid (mergeE f l m = z) := ⟨_, Lib.hid rfl⟩
  rw [hmE.out] at GU1 BU1 ⊢
  obtain ⟨qf, hqf⟩ : ∃ z, Hid ((mE == 81) = z) := ⟨_, Lib.hid rfl⟩
  have HQ2 : Hid ((vF.2 == 0) = qf) := Lib.hid (by rw [← hqf.out, ← hmE.out, ← hvF.out]; exact fork_iff f l m)
  have HNE : Hid ((mE != mE) = false) := Lib.hid (by simp)
  have c0 := cell_of ST.out.fr 0 (.int .i64 f.rings) rfl
  have c1 := cell_of ST.out.fr 1 (.int .i64 f.sectors) rfl
  have c2 := cell_of ST.out.fr 2 (.int .i64 f.wide) rfl
  go_wp2_with fail
  refine (PF.out _ (R.out.below ST.out.bel) (M.out.below ST.out.bel)).mono ?_
  rintro e W5 ⟨rfl, bb⟩
  replace ST := Lib.hid (ST.out.below bb)
  replace RU1 := Lib.hid (RU1.out.below bb)
  replace RU2 := Lib.hid (RU2.out.below bb)
  clear bb c0 c1 c2
  go_upto_region 9 with fail
  have bb : Below W5.heap.size W5 (W5.alloc (.cells #[.int .i64 vF.1.1, .int .i64 vF.1.2] 29)) := (Below.refl _ _).alloc (Nat.le_refl _) _
  replace ST := Lib.hid (ST.out.below bb)
  have P1 := Lib.hid (heap_last W5 (.cells #[.int .i64 vF.1.1, .int .i64 vF.1.2] 29))
  replace RU1 := Lib.hid (RU1.out.below bb)
  replace RU2 := Lib.hid (RU2.out.below bb)
  clear bb
  obtain ⟨p1, hp1⟩ : ∃ p, Hid (W5.heap.size = p) := ⟨_, Lib.hid rfl⟩
  rw [hp1.out] at P1 ⊢
  generalize W5.alloc (.cells #[.int .i64 vF.1.1, .int .i64 vF.1.2] 29) = W6 at *
  clear P1
  have g1 := HNE.out
  go_wp2_with fail
  refine (sameNotes_eq u1 ua1 un1 uc1 ua2 un2 uc2 _ RU1.out RU2.out).mono ?_
  rintro e W7 ⟨rfl, bb⟩
  replace ST := Lib.hid (ST.out.below bb)
  replace RU1 := Lib.hid (RU1.out.below bb)
  clear bb RU2 g1
  have g1 := hqf.out
  have g2 := HQ2.out
  have c0 := cell_of ST.out.fr 0 (.int .i64 f.rings) rfl
  have c1 := cell_of ST.out.fr 1 (.int .i64 f.sectors) rfl
  have c2 := cell_of ST.out.fr 2 (.int .i64 f.wide) rfl
  go_wp2_with fail
  refine (CS.out a nn nc l _ (R.out.below ST.out.bel)).mono ?_
  rintro e W8 ⟨rfl, bb⟩
  replace ST := Lib.hid (ST.out.below bb)
  replace RU1 := Lib.hid (RU1.out.below bb)
  clear bb g1 g2 c0 c1 c2
  have c0 := cell_of ST.out.fr 0 (.int .i64 f.rings) rfl
  have c1 := cell_of ST.out.fr 1 (.int .i64 f.sectors) rfl
  have c2 := cell_of ST.out.fr 2 (.int .i64 f.wide) rfl
  go_wp2_with fail
  refine (PM.out a nn nc l a nn nc l _ (R.out.below ST.out.bel) HOK.out (R.out.below ST.out.bel) HOK.out (LEN2.out l l FL.out FL.out)).mono ?_
  rintro e W9 ⟨⟨ua3, un3, uc3, u3, rfl, h1, h2, h3⟩, bb⟩
  have RU3 := Lib.hid h1
  have GU3 := Lib.hid h2
  have BU3 := Lib.hid h3
  replace ST := Lib.hid (ST.out.below bb)
  replace RU1 := Lib.hid (RU1.out.below bb)
  clear h1 h2 h3 bb c0 c1 c2
  by_cases hset : (checkSetP f l).1 = 0
  case neg =>
    have e3 : mergeE f l l = 1 := by rw [mergeE_self, if_neg hset]
    have e1 : mE = 1 := by rw [← hmE.out]; exact mergeE_bad (fun h => hset h.1)
    have t0 : ((checkSetP f l).1 == 0) = false := by simp [hset]
    rw [e3, e1]
    clear e3 e1 hset
    go_wp2_with fail
    go_ret
    exact ⟨rfl, ST.out.bel⟩
  have HS := Lib.hid hset
  have e3 : mergeE f l l = 0 := by rw [mergeE_self, if_pos hset]
  obtain rfl : u3 = l := (GU3.out e3).uniq (IsU.self (set_ok hset).2.2.2)
  rw [e3, hset]
  clear e3 hset GU3 BU3
  go_wp2_with fail
  refine (sameNotes_eq u3 ua3 un3 uc3 a nn nc _ RU3.out (R.out.below ST.out.bel)).mono ?_
  rintro e X1 ⟨rfl, bb⟩
  replace ST := Lib.hid (ST.out.below bb)
  replace RU1 := Lib.hid (RU1.out.below bb)
  clear bb RU3
  by_cases hm0 : mE = 0
  case neg =>
    have t0 : (mE != 0) = true := by simp [hm0]
    clear hm0
    go_wp2_with fail
    go_ret
    exact ⟨rfl, ST.out.bel⟩
  subst hm0
  have UL := Lib.hid (show u1.length ≤ 120 from merge_len (f := f) FL.out FM.out (by rw [hmE.out]; exact GU1.out) (by rw [hmE.out]; exact BU1.out))
  have U1 := Lib.hid (GU1.out rfl)
  have SU := Lib.hid (show (checkSetP f u1).1 = 0 from U1.out.set HS.out (mergeE_zero hmE.out).2.1 (by have := UL.out; omega))
  have OKU := Lib.hid (show ∀ x ∈ u1, x.Ok from fun x hx => by
    rcases (U1.out.2 x).1 hx with h | h
    · exact HOK.out x h
    · exact HOKM.out x h)
  clear GU1 BU1
  have c0 := cell_of ST.out.fr 0 (.int .i64 f.rings) rfl
  have c1 := cell_of ST.out.fr 1 (.int .i64 f.sectors) rfl
  have c2 := cell_of ST.out.fr 2 (.int .i64 f.wide) rfl
  go_wp2_with fail
  refine (CS.out ua1 un1 uc1 u1 _ RU1.out).mono ?_
  rintro e X2 ⟨rfl, bb⟩
  replace ST := Lib.hid (ST.out.below bb)
  replace RU1 := Lib.hid (RU1.out.below bb)
  clear bb c0 c1 c2
  rw [SU.out]
  have c0 := cell_of ST.out.fr 0 (.int .i64 f.rings) rfl
  have c1 := cell_of ST.out.fr 1 (.int .i64 f.sectors) rfl
  have c2 := cell_of ST.out.fr 2 (.int .i64 f.wide) rfl
  go_wp2_with fail
  refine (PM.out ua1 un1 uc1 u1 ka kn kc c _ RU1.out OKU.out (C.out.below ST.out.bel) HOKC.out (fun _ h2 => by have := UL.out; have := few_set FC.out h2; omega)).mono ?_
  rintro e X3 ⟨⟨ua4, un4, uc4, u4, rfl, h1, h2, h3⟩, bb⟩
  have RU4 := Lib.hid h1
  have GU4 := Lib.hid h2
  have BU4 := Lib.hid h3
  replace ST := Lib.hid (ST.out.below bb)
  clear h1 h2 h3 bb c0 c1 c2
  have c0 := cell_of ST.out.fr 0 (.int .i64 f.rings) rfl
  have c1 := cell_of ST.out.fr 1 (.int .i64 f.sectors) rfl
  have c2 := cell_of ST.out.fr 2 (.int .i64 f.wide) rfl
  go_wp2_with fail
  refine (PM.out ma mn mc m ka kn kc c _ (M.out.below ST.out.bel) HOKM.out (C.out.below ST.out.bel) HOKC.out (LEN2.out m c FM.out FC.out)).mono ?_
  rintro e X4 ⟨⟨ua5, un5, uc5, u5, rfl, h1, h2, h3⟩, bb⟩
  have RU5 := Lib.hid h1
  have GU5 := Lib.hid h2
  have BU5 := Lib.hid h3
  replace ST := Lib.hid (ST.out.below bb)
  replace RU4 := Lib.hid (RU4.out.below bb)
  clear h1 h2 h3 bb c0 c1 c2
  have VL := Lib.hid (show u5.length ≤ 120 from merge_len (f := f) FM.out FC.out GU5.out BU5.out)
  have OKV := Lib.hid (show ∀ x ∈ u5, x.Ok from fun x hx => by
    rcases merge_mem GU5.out BU5.out x hx with h | h
    · exact HOKM.out x h
    · exact HOKC.out x h)
  have c0 := cell_of ST.out.fr 0 (.int .i64 f.rings) rfl
  have c1 := cell_of ST.out.fr 1 (.int .i64 f.sectors) rfl
  have c2 := cell_of ST.out.fr 2 (.int .i64 f.wide) rfl
  go_wp2_with fail
  refine (PM.out a nn nc u3 ua5 un5 uc5 u5 _ (R.out.below ST.out.bel) HOK.out RU5.out OKV.out (fun h1 _ => by have := VL.out; have := few_set FL.out h1; omega)).mono ?_
  rintro e X5 ⟨⟨ua6, un6, uc6, u6, rfl, h1, h2, h3⟩, bb⟩
  have RU6 := Lib.hid h1
  have GU6 := Lib.hid h2
  have BU6 := Lib.hid h3
  replace ST := Lib.hid (ST.out.below bb)
  replace RU4 := Lib.hid (RU4.out.below bb)
  clear h1 h2 h3 bb c0 c1 c2
  by_cases hk0 : mergeE f m c = 0
  case neg =>
    have t0 : (mergeE f m c != 0) = true := by simp [hk0]
    clear hk0
    go_wp2_with fail
    go_ret
    exact ⟨rfl, ST.out.bel⟩
  obtain ⟨hj, rfl⟩ := merge_assoc hmE.out U1.out (by have := UL.out; omega) hk0 (GU5.out hk0) (by have := VL.out; omega) GU4.out BU4.out GU6.out BU6.out
  rw [hk0, hj]
  clear hk0 hj GU5 BU5 GU4 BU4 GU6 BU6
  have t0 : (mergeE f u3 u5 == mergeE f u3 u5) = true := by simp
  go_wp2_with fail
  refine (sameNotes_eq u4 ua4 un4 uc4 ua6 un6 uc6 _ RU4.out RU6.out).mono ?_
  rintro e X6 ⟨rfl, bb⟩
  replace ST := Lib.hid (ST.out.below bb)
  clear bb RU4 RU6
  go_wp2_with fail
  go_ret
  exact ⟨rfl, ST.out.bel⟩
end Go.Proofs.YtpjiakgfegnmcaaGreat
namespace Go.Proofs.YtpjiakgfegnmcaaGreat
open Go.ChangeShapes Go.WideShapes Go.ChangeAt Go.RowKit

theorem Tryz.cellsT76 : Tryz.prog.cellsOf 76 = 2 := by kernel_rfl
theorem Tryz.cellsT43 : Tryz.prog.cellsOf 43 = 1 := by kernel_rfl
section
variable {H : Type} {enc : TypeId × Value → H} {W : World}
set_option maxRecDepth 100000 in
theorem open_twosets {base : Nat} {v : Value} {d : DataW H} {p : List MemPlace} (hval : Value.okWide Tryz.prog W .any base 76 v)
    (h : DataW.Trod enc Tryz.prog W 0 (fun _ => true) true 76 v d p) : ∃ ba bn bc lb ca cn cc lc, v = .agg #[.slice ba bn bc, .slice ca cn cc] ∧ RdNs W ba bn bc lb ∧ (∀ x ∈ lb, x.Ok) ∧ RdNs W ca cn cc lc ∧ ∀ x ∈ lc, x.Ok := by
  obtain ⟨cs, rfl, hsz⟩ := okWide_struct Tryz.underlying76 hval
  obtain ⟨fuel, hf⟩ := h
  obtain ⟨y0, y1, m, _, hl, g0, g1⟩ := trod_struct2 Tryz.underlying76 hf
  rw [Tryz.cellsT76] at hsz
  obtain ⟨l⟩ := cs
  match l, hsz with
  | [c0, c1], _ =>
    have g0' : DataW.trod enc Tryz.prog W 0 (fun _ => true) true m 43 (([c0, c1].drop 0).take (Tryz.prog.cellsOf 43)) = some y0 := g0
    have g1' : DataW.trod enc Tryz.prog W 0 (fun _ => true) true m 43 (([c0, c1].drop 1).take (Tryz.prog.cellsOf 43)) = some y1 := g1
    rw [Tryz.cellsT43] at g0' g1'
    obtain ⟨ba, bn, bc, lb, e0, r0, o0⟩ := open_notes1 g0'
    obtain ⟨ca, cn, cc, lc, e1, r1, o1⟩ := open_notes1 g1'
    simp at e0 e1
    exact ⟨ba, bn, bc, lb, ca, cn, cc, lc, by rw [e0, e1], r0, o0, r1, o1⟩
end
end Go.Proofs.YtpjiakgfegnmcaaGreat
namespace Go.Proofs.YtpjiakgfegnmcaaGreat
open Go.ChangeShapes Go.WideShapes Go.ChangeAt Go.RowKit

set_option maxRecDepth 100000 in
theorem historyUnion_lifted (os : Os) (started : os.Started) (H : Type) (enc : TypeId × Value → H) :
    ReturnsInHanded {} Tryz.checked os 9 .any (Rows.historyUnionSpec.pre6 enc Tryz.prog Tryz.f9 Rows.historyUnionRow.domain false) (Rows.historyUnionSpec.post enc Tryz.prog Tryz.f9 false true false false) := by
  refine returnsInHanded_of_change (C := Tryz.checked) Tryz.own started (by kernel_rfl) Tryz.func9
    (ChangeSpec.witness6 (enc := enc) (C := Tryz.checked) false ⟨#[], #[.agg #[.int .i64 0, .int .i64 0, .int .i64 0], .slice none 0 0, .agg #[.slice none 0 0, .slice none 0 0]], []⟩ 8 (by kernel_rfl) (by kernel_rfl) (by kernel_rfl) (by kernel_rfl)) ?_
  intro W base args ds gs before hval0 hW hcnd _
  have hval : ∀ (j : Nat) t v, Tryz.f9.params[j]? = some t → args[j]? = some v → Value.okWide Tryz.prog W .any base t v := hval0
  have hW' := hW
  obtain ⟨p, q, hA0, hV, rfl, hfz, hnd⟩ := hW
  have hA : DataW.TrodAll enc Tryz.prog W 0 (fun _ => true) true Tryz.f9.params.toList args.toList ds p := hA0
  have hA1 := hA
  rw [Tryz.params9] at hA hval
  obtain ⟨v0, v1, v2, d0, d1, d2, p0, p1, p2, rfl, rfl, rfl, h0, h1, h2⟩ := trodAll_three hA
  obtain ⟨rfl, rfl⟩ := trodVars_none hV
  obtain ⟨f, rfl⟩ := hopen_frame (hval 0 23 v0 rfl rfl) h0
  obtain ⟨a, n, c, l, rfl, r1, r2⟩ := open_notes (hval 1 43 v1 rfl rfl) h1
  obtain ⟨ba, bn, bc, lb, ca, cn, cc, lc, rfl, r3, r4, r5, r6⟩ := open_twosets (hval 2 76 v2 rfl rfl) h2
  clear hA0 hval0
  simp only [List.append_nil] at hW'
  refine (hunion_any f a n c l ba bn bc lb ca cn cc lc W r1 r2 r3 r4 r5 r6).mono fun e W' ⟨he, hb⟩ => ?_
  subst he
  exact ⟨_, rfl, post_of_law Tryz.laidOut Tryz.underlying4 rfl (by kernel_rfl) (by kernel_rfl) hW' hA1 rfl hb⟩

theorem historyUnion_holds : Rows.HistoryUnionSaid :=
  OpenClaim.holds_of_wide 9 Tryz.f9 rfl rfl rfl rfl rfl rfl rfl ⟨rfl, rfl, rfl, rfl, rfl⟩ rfl rfl rfl rfl rfl (by kernel_rfl) Tryz.func9 (by kernel_rfl)
    (of_decide_eq_true (by kernel_rfl)) (by unfold Func.isWrapper; first | (rw [if_pos (by decide +kernel)]; kernel_rfl) | (rw [if_neg (by decide +kernel)]; exact ⟨rfl, rfl⟩))
    (fun os started H enc _ => historyUnion_lifted os started H enc)
#print axioms historyUnion_holds
end Go.Proofs.YtpjiakgfegnmcaaGreat
