/- The given row TalliesGap, proved: whatever the input, true, and the input reads as it did. -/
import Derived.Test.YtlnhppgfhkkidaaGreatKPgp9
set_option linter.unusedSimpArgs false
set_option linter.unusedVariables false
open List renaming getElem_toArray → lq0, getElem_cons_succ → lq1, getElem_cons_zero → lq2, setIfInBounds_toArray → lq3, set_cons_zero → lq4, set_cons_succ → lq5
namespace Go.Proofs.YtlnhppgfhkkidaaGreat
set_option linter.unusedSimpArgs false
open Go.RowKit

theorem missP_cnt {c : Int → Nat} {f : FrV} {n : NoteV} (h : formedB f n = true) : missP (cntL c) n = decide (n.num ≤ (c n.house : Int)) := by
  have h1 := formed_house h
  obtain ⟨k, hk⟩ : ∃ k : Nat, n.house = (k : Int) := ⟨n.house.toNat, by omega⟩
  have h2 := cntL_at c k (by omega)
  have h3 : (cntL c).length = 8 := rfl
  rw [hk] at h1 ⊢
  exact missP_in (k := k - 1) (by rw [hk]; omega) (by rw [h3, hk]; simp; omega) h2
theorem gift_miss {S : HouV} (h : HInv S) (c : Int → Nat) : S.l.filter (fun n => !missP (cntL c) n) = giftOf S.l c := by
  unfold giftOf
  refine List.filter_congr fun x hx => ?_
  rw [missP_cnt (h.frm x hx)]
theorem formed_check {f : FrV} (hv : f.valid = true) {l : List NoteV} (h : ∀ x ∈ l, formedB f x = true) : l.any (fun n => !decide (checkN f n = 0)) = false := by
  rw [List.any_eq_false]
  intro x hx
  have : checkN f x = 0 := by unfold checkN; rw [if_pos hv, if_pos (h x hx)]
  simp [this]
theorem gap_plain {S1 S2 : HouV} {u : List NoteV} (h1 : HInv S1) (h2 : HInv S2) (hf : S1.f = S2.f) (hu : IsU S1.l S2.l u) (hn : NoFork S1.l S2.l) :
    hearP S2 (giftOf S1.l S2.c) = (S2.adds (giftOf S1.l S2.c), ((giftOf S1.l S2.c).length : Int), 0) ∧ (S2.adds (giftOf S1.l S2.c)).l = u ∧ u.length = S2.l.length + (giftOf S1.l S2.c).length ∧
    hearP (S2.adds (giftOf S1.l S2.c)) (giftOf S1.l S2.c) = (S2.adds (giftOf S1.l S2.c), 0, 0) ∧ HInv (S2.adds (giftOf S1.l S2.c)) := by
  have hg : ∀ x ∈ giftOf S1.l S2.c, x ∈ S1.l := fun x hx => (gift_mem.1 hx).1
  have hc := formed_check h2.v (l := giftOf S1.l S2.c) (fun x hx => by rw [← hf]; exact h1.frm x (hg x hx))
  obtain ⟨c', e1⟩ := hear_gift_all h1.nms h2.nms h1.srt
  have e2 := hearP_ok hc e1
  obtain ⟨e3, e4⟩ := gift_all h2.nms hu h1.srt h2.srt hn (fun x hx => (formed_house (h1.frm x hx)).2.2)
  have hi := (hearP_inv (S := S2) (l := giftOf S1.l S2.c) h2 (fun x hx => h1.ok x (hg x hx))).1
  rw [e2] at hi
  have e5 : (S2.adds (giftOf S1.l S2.c)).l = u := by rw [adds_l, e3]
  refine ⟨e2, e5, e4, ?_, hi⟩
  have e6 := hear_known (l := (S2.adds (giftOf S1.l S2.c)).l) (c := (S2.adds (giftOf S1.l S2.c)).c) (giftOf S1.l S2.c) (fun x hx => by rw [e5]; exact (hu.2 x).2 (.inl (hg x hx))) (set_nodup hi.srt)
  have e7 := hearP_ok (S := S2.adds (giftOf S1.l S2.c)) (by rw [adds_f]; exact hc) e6
  rw [e7]
  rfl
end Go.Proofs.YtlnhppgfhkkidaaGreat
namespace Go.Proofs.YtlnhppgfhkkidaaGreat
set_option linter.unusedSimpArgs false
open Go.RowKit

set_option maxHeartbeats 8000000 in
set_option maxRecDepth 100000 in
theorem sameNotes9_eq (l : List NoteV) (a : Option Addr) (nn nc : Nat) (ma : Option Addr) (mn mc : Nat) (w : World) (hr : RdNs w a nn nc l) (hm : RdNs w ma mn mc l) (hsm : ∀ x ∈ l, SmallN x ∧ x.strokes.length ≤ 1000000) :
    Calls Tryz.prog 18 #[.slice a nn nc, .slice ma mn mc] w fun e w' => e = .returned (.bool true) ∧ Below w.heap.size w w' := by
  have J19 : (Tryz.prog.info? 47).map (·.size) = some 19 := by kernel_rfl
  obtain rfl : nn = mn := hr.1.symm.trans hm.1
  obtain ⟨xs, hxs, hrl⟩ := hr.choose
  have RL := Lib.hid hrl
  have HXS := Lib.hid hxs
  have LNX := Lib.hid hrl.1
  have LOK := Lib.hid (show ∀ W, Below w.heap.size w W → ∀ x ∈ xs, x.ok W from fun W hb x hx => (ls_ok hrl hx).below hb)
  obtain ⟨ys, hys, hml⟩ := hm.choose
  have ML := Lib.hid hml
  have HYS := Lib.hid hys
  have LMY := Lib.hid hml.1
  have MOK := Lib.hid (show ∀ W, Below w.heap.size w W → ∀ x ∈ ys, x.ok W from fun W hb x hx => (ls_ok hml hx).below hb)
  have hn63 : nn ≤ 9223372036854775807 := by have h1 := hr.2.1; have h2 := hr.2.2.1; unfold maxLen at h2; omega
  have tne : ((nn : Int) != (nn : Int)) = false := by simp
  have HSM := Lib.hid hsm
  clear hr hm hxs hrl hys hml hsm
  go_enter Tryz.func18, Tryz.ntmps18
  go_wp2_with fail
  clear tne
  go_loopw [5] (fun i wr => ∃ (k : Nat), i = .int .i64 (k : Int) ∧ k ≤ nn ∧ Hid (Below w.heap.size w wr)) (fun i _ => nn - (intOf i).toNat)
  case atStart => exact ⟨0, rfl, Nat.zero_le _, Lib.hid (Below.refl _ _)⟩
  case round =>
    obtain ⟨k, rfl, hk, BB⟩ := hrel
    by_cases hlt : k < nn
    · have t0 : decide ((k : Int) < (nn : Int)) = true := by simp; omega
      obtain ⟨x, Hx⟩ : ∃ x, xs[k]? = some x := ⟨_, List.getElem?_eq_getElem (by rw [LNX.out]; exact hlt)⟩
      obtain ⟨y, Hy⟩ : ∃ y, ys[k]? = some y := ⟨_, List.getElem?_eq_getElem (by rw [LMY.out]; exact hlt)⟩
      have HL1 : l[k]? = some x.n := by rw [← HXS.out, List.getElem?_map, Hx]; rfl
      have EN : y.n = x.n := by
        have h2 : l[k]? = some y.n := by rw [← HYS.out, List.getElem?_map, Hy]; rfl
        rw [HL1] at h2
        exact (Option.some.inj h2).symm
      have SMX := Lib.hid (HSM.out x.n (List.mem_of_getElem? HL1))
      obtain ⟨yn, ysa, ysc⟩ := y
      dsimp only at EN
      subst EN
      clear HL1
      obtain ⟨b, off, rfl, hat⟩ := (RL.out.below BB.out).at (by omega)
      have HX := Lib.hid (hat k x Hx).1
      obtain ⟨o, ho⟩ : ∃ o, Hid (off + k * 19 = o) := ⟨_, Lib.hid rfl⟩
      rw [ho.out] at HX
      have HIX := Lib.hid (fun W => idx_off (W := W) (c := nc) (b := b) Tryz.underlying24 J19 hlt ho.out)
      obtain ⟨b2, off2, rfl, hat2⟩ := (ML.out.below BB.out).at (by omega)
      obtain ⟨o2, ho2⟩ : ∃ o, Hid (off2 + k * 19 = o) := ⟨_, Lib.hid rfl⟩
      have HY := Lib.hid (hat2 k _ Hy).1
      rw [ho2.out] at HY
      have HIY := Lib.hid (fun W => idx_off (W := W) (c := mc) (b := b2) Tryz.underlying24 J19 hlt ho2.out)
      have XOK := Lib.hid (LOK.out wr BB.out x (List.mem_of_getElem? Hx))
      have YOK := Lib.hid (MOK.out wr BB.out _ (List.mem_of_getElem? Hy))
      have HK64 : Hid ((k : Int) + 1 ≤ 9223372036854775807) := Lib.hid (by omega)
      have LX := Lib.hid (show ∀ w0, Below wr.heap.size wr w0 → w0.rangeAt b o (x.n.cells x.sa x.sc) from fun w0 h => rangeAt_below HX.out h)
      have LY := Lib.hid (show ∀ w0, Below wr.heap.size wr w0 → w0.rangeAt b2 o2 (x.n.cells ysa ysc) from fun w0 h => rangeAt_below HY.out h)
      have hC0 : Below wr.heap.size wr wr.drew := (Below.refl _ _).drew
      clear hat Hx hat2 Hy
      go_upto_region 6 with fail
      clear t0
      try simp only [Act.put, lq3, lq4, lq5]
      refine wp_region_quiet (C := fun w' : World => Below wr.heap.size wr w') (by kernel_rfl) (by kernel_rfl) hC0 ?_
      show wpQuiet _ _ _ _ (_ :: _) _
      go_big_quiet_want
      go_big_quiet_op
      go_big_quiet_on
      go_big_quiet_want
      go_big_quiet_op
      go_big_quiet_on
      go_big_quiet_want
      refine ⟨.pointer (some ⟨b, o, none⟩), fun w0 hC => ?_, ?_⟩
      · have hix := HIX.out w0
        clear hC
        go_simp
      simp only [Act.put, lq3, lq4, lq5]
      go_big_quiet_on
      go_big_quiet_want
      refine ⟨.agg (noteA x.n x.sa x.sc), fun w0 hC => quiet_load_note (.tmp 19) rfl b o rfl x.n x.sa x.sc (LX.out w0 hC), ?_⟩
      simp only [Act.put, lq3, lq4, lq5]
      go_big_quiet_on
      go_big_quiet_want
      go_big_quiet_op
      go_big_quiet_on
      go_big_quiet_want
      go_big_quiet_op
      go_big_quiet_on
      go_big_quiet_want
      refine ⟨.pointer (some ⟨b2, o2, none⟩), fun w0 hC => ?_, ?_⟩
      · have hix := HIY.out w0
        clear hC
        go_simp
      simp only [Act.put, lq3, lq4, lq5]
      go_big_quiet_on
      go_big_quiet_want
      refine ⟨.agg (noteA x.n ysa ysc), fun w0 hC => quiet_load_note (.tmp 23) rfl b2 o2 rfl x.n ysa ysc (LY.out w0 hC), ?_⟩
      simp only [Act.put, lq3, lq4, lq5]
      go_big_quiet_on
      go_big_quiet_want
      refine ⟨.bool true, fun w0 hC => ?_, ?_⟩
      · go_simp
        refine (snote_any x.n x.sa x.sc ysa ysc w0 (XOK.out.below hC) (YOK.out.below hC) SMX.out.1 SMX.out.2).mono ?_
        rintro e w1 ⟨rfl, b1⟩
        exact ⟨rfl, hC.trans (b1.mono hC.size)⟩
      simp only [Act.put, lq3, lq4, lq5]
      go_big_quiet_on
      go_big_quiet_want
      refine ⟨.bool false, fun w0 hC => ?_, ?_⟩
      · clear hC
        go_simp
      simp only [Act.put, lq3, lq4, lq5]
      go_big_quiet_on
      refine wpQuiet_nil ?_
      intro w' hC
      have BB2 := Lib.hid (BB.out.trans (hC.mono BB.out.size))
      clear hC LX LY XOK YOK HX HY BB
      have hk64 := HK64.out
      go_wp2_with fail
      go_roundw
      case rel => exact ⟨k + 1, by go_num, by omega, BB2⟩
      case measure => simp [intOf]; omega
    · have t0 : decide ((k : Int) < (nn : Int)) = false := by simp; omega
      go_wp2_with fail
      go_ret
      exact ⟨rfl, BB.out⟩
end Go.Proofs.YtlnhppgfhkkidaaGreat
namespace Go.Proofs.YtlnhppgfhkkidaaGreat
set_option linter.unusedSimpArgs false
open Go.RowKit

structure GpAt (w W : World) (pF : Nat) (f : FrV) (F1 F2 : Nat → Prop) : Prop where
  bel : Below w.heap.size w W
  fr : W.heap[pF]? = some (.cells #[.int .i64 f.rings, .int .i64 f.sectors, .int .i64 f.wide] 23 (0, 0))
  ge : w.heap.size ≤ pF
  g1 : ∀ k, F1 k → pF < k
  g2 : ∀ k, F2 k → pF < k
  ne : ∀ k, F1 k → ¬ F2 k
section
variable {w W W' : World} {pF : Nat} {f : FrV} {F1 F2 F' : Nat → Prop}
theorem GpAt.lt (h : GpAt w W pF f F1 F2) : pF < W.heap.size := blk_lt h.fr
theorem GpAt.below (h : GpAt w W pF f F1 F2) (hb : Below W.heap.size W W') : GpAt w W' pF f F1 F2 :=
  ⟨h.bel.trans (hb.mono h.bel.size), below_blk hb h.fr, h.ge, h.g1, h.g2, h.ne⟩
theorem GpAt.swap (h : GpAt w W pF f F1 F2) : GpAt w W pF f F2 F1 := ⟨h.bel, h.fr, h.ge, h.g2, h.g1, fun k h1 h2 => h.ne k h2 h1⟩
theorem GpAt.one (h : GpAt w W pF f F1 F2) (hs : Same F1 W W') (hn : ∀ k, F' k → F1 k ∨ W.heap.size ≤ k) (h2 : ∀ k, F2 k → k < W.heap.size) : GpAt w W' pF f F' F2 :=
  ⟨hs.below h.bel h.bel.size (fun k hk => by have := h.g1 k hk; have := h.ge; omega), (hs.block pF h.lt (fun hk => Nat.lt_irrefl _ (h.g1 pF hk))).trans h.fr, h.ge,
    fun k hk => (hn k hk).elim (h.g1 k) (fun h3 => Nat.lt_of_lt_of_le h.lt h3), h.g2, fun k hk h4 => (hn k hk).elim (fun h5 => h.ne k h5 h4) (fun h5 => by have := h2 k h4; omega)⟩
theorem GpAt.two (h : GpAt w W pF f F1 F2) (hs : Same F2 W W') (hn : ∀ k, F' k → F2 k ∨ W.heap.size ≤ k) (h1 : ∀ k, F1 k → k < W.heap.size) : GpAt w W' pF f F1 F' := (h.swap.one hs hn h1).swap
theorem GpAt.inp (h : GpAt w W pF f F1 F2) {a : Option Addr} {n c : Nat} {xs : List LN} (hr : RdLs w a n c xs) (W2 : World) (hs : Same F1 W W2) : RdLs W2 a n c xs :=
  hr.below (hs.below h.bel h.bel.size (fun k hk => by have := h.g1 k hk; have := h.ge; omega))
end
theorem hearP_f (S : HouV) (l : List NoteV) : (hearP S l).1.f = S.f := by
  unfold hearP
  split
  · rfl
  · split
    · rfl
    · exact adds_f _ _
set_option maxHeartbeats 32000000 in
set_option maxRecDepth 100000 in
theorem gap_any (f : FrV) (a : Option Addr) (nn nc : Nat) (l : List NoteV) (ma : Option Addr) (mn mc : Nat) (m : List NoteV) (w : World) (hr : RdNs w a nn nc l) (hok : ∀ y ∈ l, y.Ok) (hm : RdNs w ma mn mc m) (hokm : ∀ y ∈ m, y.Ok) :
    Calls Tryz.prog 3 #[f.val, .slice a nn nc, .slice ma mn mc] w fun e w' => e = .returned (.bool true) ∧ Below w.heap.size w w' := by
  have hvl : f.val = .agg #[.int .i64 f.rings, .int .i64 f.sectors, .int .i64 f.wide] := rfl
  obtain ⟨xs, hxs, hrl⟩ := hr.choose
  obtain ⟨ys, hys, hml⟩ := hm.choose
  have NH := Lib.hid (fun (id : Int) W h => newHouse_any f id W h)
  have PM := Lib.hid (fun a nn nc l ma mn mc m W h1 h2 h3 h4 h5 => pmerge2_any f a nn nc l ma mn mc m W h1 h2 h3 h4 h5)
  rw [hvl] at NH PM ⊢
  clear hvl
  have R := Lib.hid hrl
  have M := Lib.hid hml
  have XS := Lib.hid hxs
  have YS := Lib.hid hys
  have HOK := Lib.hid hok
  have HOKM := Lib.hid hokm
  have LN1 : Hid (l.length = nn) := Lib.hid hr.1
  have LN2 : Hid (m.length = mn) := Lib.hid hm.1
  clear hr hm hrl hml hxs hys hok hokm
  have B0 := Lib.hid ((Below.refl w.heap.size w).alloc (Nat.le_refl _) (.cells #[.int .i64 f.rings, .int .i64 f.sectors, .int .i64 f.wide] 23))
  have F0 := Lib.hid (heap_last w (.cells #[.int .i64 f.rings, .int .i64 f.sectors, .int .i64 f.wide] 23))
  go_enter Tryz.func3, Tryz.ntmps3
  go_upto_region 1 with fail
  obtain ⟨pF, hpF⟩ : ∃ p, Hid (w.heap.size = p) := ⟨_, Lib.hid rfl⟩
  rw [hpF.out] at F0 ⊢
  generalize w.alloc (.cells #[.int .i64 f.rings, .int .i64 f.sectors, .int .i64 f.wide] 23) = W0 at *
  have ST : Hid (GpAt w W0 pF f (fun _ => False) (fun _ => False)) := Lib.hid ⟨B0.out, F0.out, Nat.le_of_eq hpF.out, fun _ h => h.elim, fun _ h => h.elim, fun _ h => h.elim⟩
  clear B0 F0
  go_wp2_with fail
  refine (awake_any _).mono ?_
  rintro e W1 ⟨rfl, b1⟩
  replace ST := Lib.hid (ST.out.below b1)
  clear b1
  go_upto_region 2 with fail
  cases hq : decide ((60 : Int) < (nn : Int))
  case true =>
    go_wp2_with fail
    go_ret
    exact ⟨rfl, ST.out.bel⟩
  have NL := Lib.hid (show nn ≤ 60 by simp at hq; omega)
  cases hq2 : decide ((60 : Int) < (mn : Int))
  case true =>
    go_wp2_with fail
    go_ret
    exact ⟨rfl, ST.out.bel⟩
  have ML := Lib.hid (show mn ≤ 60 by simp at hq2; omega)
  go_wp2_with fail
  refine (lightL_any xs a nn nc 400 _ (R.out.below ST.out.bel)).mono ?_
  rintro e W2 ⟨⟨lb, rfl⟩, rfl⟩
  clear hq hq2
  cases lb
  · go_wp2_with fail
    go_ret
    exact ⟨rfl, ST.out.bel⟩
  go_wp2_with fail
  refine (lightL_any ys ma mn mc 400 _ (M.out.below ST.out.bel)).mono ?_
  rintro e W2 ⟨⟨lb, rfl⟩, rfl⟩
  cases lb
  · go_wp2_with fail
    go_ret
    exact ⟨rfl, ST.out.bel⟩
  have c0 := cell_of ST.out.fr 0 (.int .i64 f.rings) rfl
  have c1 := cell_of ST.out.fr 1 (.int .i64 f.sectors) rfl
  have c2 := cell_of ST.out.fr 2 (.int .i64 f.wide) rfl
  go_wp2_with fail
  refine (NH.out 1 _ (.inl rfl)).mono ?_
  rintro e W3 ⟨h1, bb⟩
  have PG := Lib.hid ST.out.lt
  replace ST := Lib.hid (ST.out.below bb)
  clear bb c0 c1 c2
  rcases h1 with ⟨hbad, rfl⟩ | ⟨hv, _, p1, mb1, sp1, SF1, rfl, hh1, hg1⟩
  · have HB := Lib.hid hbad
    clear hbad
    have c0 := cell_of ST.out.fr 0 (.int .i64 f.rings) rfl
    have c1 := cell_of ST.out.fr 1 (.int .i64 f.sectors) rfl
    have c2 := cell_of ST.out.fr 2 (.int .i64 f.wide) rfl
    go_wp2_with fail
    refine (NH.out 2 _ (.inr rfl)).mono ?_
    rintro e W4 ⟨h1, bb⟩
    replace ST := Lib.hid (ST.out.below bb)
    clear bb c0 c1 c2
    rcases h1 with ⟨_, rfl⟩ | ⟨hv, _⟩
    · go_wp2_with fail
      go_ret
      exact ⟨rfl, ST.out.bel⟩
    · exact absurd ⟨hv, by decide, by decide⟩ HB.out
  have HV := Lib.hid hv
  have H1 := Lib.hid hh1
  replace ST : Hid (GpAt w W3 pF f (houF p1 mb1 (fun _ => none) SF1) (fun _ => False)) := Lib.hid ⟨ST.out.bel, ST.out.fr, ST.out.ge, fun k hk => Nat.lt_of_lt_of_le PG.out (hg1 k hk), fun _ h => h.elim, fun _ _ h => h.elim⟩
  clear hv hh1 hg1 PG
  have c0 := cell_of ST.out.fr 0 (.int .i64 f.rings) rfl
  have c1 := cell_of ST.out.fr 1 (.int .i64 f.sectors) rfl
  have c2 := cell_of ST.out.fr 2 (.int .i64 f.wide) rfl
  go_wp2_with fail
  refine (NH.out 2 _ (.inr rfl)).mono ?_
  rintro e W4 ⟨h1, bb⟩
  have PG := Lib.hid ST.out.lt
  have LT1 := Lib.hid H1.out.lt
  replace ST := Lib.hid (ST.out.below bb)
  replace H1 := Lib.hid (H1.out.below bb)
  clear bb c0 c1 c2
  rcases h1 with ⟨hbad, rfl⟩ | ⟨hv, _, p2, mb2, sp2, SF2, rfl, hh2, hg2⟩
  · exact absurd ⟨HV.out, by decide, by decide⟩ hbad
  have H2 := Lib.hid hh2
  replace ST : Hid (GpAt w W4 pF f (houF p1 mb1 (fun _ => none) SF1) (houF p2 mb2 (fun _ => none) SF2)) := Lib.hid ⟨ST.out.bel, ST.out.fr, ST.out.ge, ST.out.g1, fun k hk => Nat.lt_of_lt_of_le PG.out (hg2 k hk), fun k hk h => by have := hg2 k h; have := LT1.out k hk; omega⟩
  clear hv hh2 hg2 PG LT1
  have I1 := Lib.hid (HInv.new HV.out (show (1 : Int) ≤ 1 ∧ (1 : Int) ≤ 8 by decide))
  have I2 := Lib.hid (HInv.new HV.out (show (1 : Int) ≤ 2 ∧ (2 : Int) ≤ 8 by decide))
  go_wp2_with fail
  refine (hhear_any p1 mb1 sp1 _ SF1 (HouV.new f 1) a nn nc l xs _ H1.out I1.out XS.out (fun W2 hs => ST.out.inp R.out W2 hs) HOK.out (by have := NL.out; show 0 + nn ≤ 400; omega)).mono ?_
  rintro e W5 ⟨rfl, G1, SF1', h1, h2, h3⟩
  replace H1 := Lib.hid h1
  have L2 := Lib.hid H2.out.lt
  replace H2 := Lib.hid (H2.out.same h2 ST.out.ne)
  replace ST := Lib.hid (ST.out.one h2 h3 L2.out)
  clear h1 h2 h3 L2
  go_wp2_with fail
  refine (hhear_any p2 mb2 sp2 _ SF2 (HouV.new f 2) ma mn mc m ys _ H2.out I2.out YS.out (fun W2 hs => ST.out.swap.inp M.out W2 hs) HOKM.out (by have := ML.out; show 0 + mn ≤ 400; omega)).mono ?_
  rintro e W6 ⟨rfl, G2, SF2', h1, h2, h3⟩
  replace H2 := Lib.hid h1
  have L1 := Lib.hid H1.out.lt
  replace H1 := Lib.hid (H1.out.same h2 (fun k hk h => ST.out.ne k h hk))
  replace ST := Lib.hid (ST.out.two h2 h3 L1.out)
  clear h1 h2 h3 L1
  have J1 := Lib.hid (hearP_inv I1.out HOK.out)
  have J2 := Lib.hid (hearP_inv I2.out HOKM.out)
  have E1 := Lib.hid (hearP_f (HouV.new f 1) l)
  have E2 := Lib.hid (hearP_f (HouV.new f 2) m)
  obtain ⟨x1, z1, S1, hS1⟩ : ∃ x z S, Hid (hearP (HouV.new f 1) l = (S, x, z)) := ⟨_, _, _, Lib.hid rfl⟩
  obtain ⟨x2, z2, S2, hS2⟩ : ∃ x z S, Hid (hearP (HouV.new f 2) m = (S, x, z)) := ⟨_, _, _, Lib.hid rfl⟩
  rw [hS1.out] at H1 J1 E1 ⊢
  rw [hS2.out] at H2 J2 E2 ⊢
  dsimp only at H1 H2 J1 J2 E1 E2 ⊢
  clear hS1 hS2
  by_cases hz1 : z1 = 0
  case neg =>
    have t0 : (z1 != 0) = true := by simp [hz1]
    clear hz1
    go_wp2_with fail
    go_ret
    exact ⟨rfl, ST.out.bel⟩
  subst hz1
  by_cases hz2 : z2 = 0
  case neg =>
    have t0 : (z2 != 0) = true := by simp [hz2]
    clear hz2
    go_wp2_with fail
    go_ret
    exact ⟨rfl, ST.out.bel⟩
  subst hz2
  have EF : Hid (S1.f = f ∧ S2.f = f) := Lib.hid ⟨E1.out, E2.out⟩
  have LL1 : Hid (S1.l.length ≤ 60) := Lib.hid (by have h1 := J1.out.2; have h2 := LN1.out; have h3 := NL.out; have h4 : (HouV.new f 1).l.length = 0 := rfl; omega)
  have LL2 : Hid (S2.l.length ≤ 60) := Lib.hid (by have h1 := J2.out.2; have h2 := LN2.out; have h3 := ML.out; have h4 : (HouV.new f 2).l.length = 0 := rfl; omega)
  replace I1 := Lib.hid J1.out.1
  replace I2 := Lib.hid J2.out.1
  clear J1 J2 E1 E2 R M XS YS HOK HOKM LN1 LN2 NH
  go_wp2_with fail
  refine (hnotes2_any p1 mb1 sp1 G1 SF1' S1 _ H1.out I1.out (by have := LL1.out; omega)).mono ?_
  rintro e W7 ⟨⟨xa, xn, xc, xz, rfl, h1, h2⟩, bb⟩
  have RX : Hid (RdNs W7 xa xn xc S1.l) := Lib.hid (by rw [← h2]; exact h1.rd)
  replace ST := Lib.hid (ST.out.below bb)
  replace H1 := Lib.hid (H1.out.below bb)
  replace H2 := Lib.hid (H2.out.below bb)
  clear h1 h2 bb
  go_wp2_with fail
  refine (hnotes2_any p2 mb2 sp2 G2 SF2' S2 _ H2.out I2.out (by have := LL2.out; omega)).mono ?_
  rintro e W8 ⟨⟨ya, yn, yc, yz, rfl, h1, h2⟩, bb⟩
  have RY : Hid (RdNs W8 ya yn yc S2.l) := Lib.hid (by rw [← h2]; exact h1.rd)
  replace RX := Lib.hid (RX.out.below bb)
  replace ST := Lib.hid (ST.out.below bb)
  replace H1 := Lib.hid (H1.out.below bb)
  replace H2 := Lib.hid (H2.out.below bb)
  clear h1 h2 bb
  have YN : Hid (S2.l.length = yn) := Lib.hid RY.out.1
  have c0 := cell_of ST.out.fr 0 (.int .i64 f.rings) rfl
  have c1 := cell_of ST.out.fr 1 (.int .i64 f.sectors) rfl
  have c2 := cell_of ST.out.fr 2 (.int .i64 f.wide) rfl
  go_wp2_with fail
  refine (PM.out xa xn xc S1.l ya yn yc S2.l _ RX.out I1.out.ok RY.out I2.out.ok (fun _ _ => by have := LL1.out; have := LL2.out; omega)).mono ?_
  rintro e W9 ⟨h1, bb⟩
  have L2 : Hid (∀ k, houF p2 mb2 G2 SF2' k → k < W8.heap.size) := Lib.hid H2.out.lt
  replace ST := Lib.hid (ST.out.below bb)
  replace H1 := Lib.hid (H1.out.below bb)
  replace H2 := Lib.hid (H2.out.below bb)
  clear c0 c1 c2 bb RX RY
  rcases h1 with ⟨rfl, hz⟩ | ⟨ua, un, uc, zs, rfl, hz, h2, h3⟩
  · have t0 : (mergeE f S1.l S2.l != 0) = true := by simp [hz]
    clear hz
    go_wp2_with fail
    go_ret
    exact ⟨rfl, ST.out.bel⟩
  have KA := Lib.hid h2.kept
  have UU := Lib.hid h3
  have UN : Hid (zs.length = un) := Lib.hid h2.len
  have GP := Lib.hid (gap_plain I1.out I2.out (EF.out.1.trans EF.out.2.symm) h3 (mergeE_zero hz).2.2)
  clear hz h2 h3
  obtain ⟨g, hg⟩ : ∃ g, Hid (giftOf S1.l S2.c = g) := ⟨_, Lib.hid rfl⟩
  rw [hg.out] at GP
  obtain ⟨S3, hS3⟩ : ∃ S, Hid (S2.adds g = S) := ⟨_, Lib.hid rfl⟩
  rw [hS3.out] at GP
  have SUB : Hid (∀ x ∈ g, x.Ok) := Lib.hid (fun x hx => by rw [← hg.out] at hx; exact I1.out.ok x (gift_mem.1 hx).1)
  clear UU PM
  go_wp2_with fail
  refine (hcounts_any p2 mb2 sp2 G2 SF2' S2 _ H2.out).mono ?_
  rintro e X1 ⟨⟨ka, kc, rfl, h1⟩, bb⟩
  have RK := Lib.hid h1
  replace KA := Lib.hid (KA.out.below bb)
  replace ST := Lib.hid (ST.out.below bb)
  replace H1 := Lib.hid (H1.out.below bb)
  replace H2 := Lib.hid (H2.out.below bb)
  clear h1 bb
  go_wp2_with fail
  refine (hmissing_any p1 mb1 sp1 G1 SF1' S1 (cntL S2.c) ka 8 kc _ H1.out I1.out (by have := LL1.out; omega) RK.out).mono ?_
  rintro e X2 ⟨⟨ga, gi, gc, gz, rfl, h1, h2⟩, bb⟩
  have KG := Lib.hid h1
  have GE : Hid (gz.map LN.n = g) := Lib.hid (by rw [h2, gift_miss I1.out, hg.out])
  have GI : Hid (g.length = gi) := Lib.hid (by rw [← GE.out, List.length_map]; exact h1.rd.1)
  have L3 : Hid (∀ k, houF p2 mb2 G2 SF2' k → k < X1.heap.size) := Lib.hid H2.out.lt
  replace KA := Lib.hid (KA.out.below bb)
  replace ST := Lib.hid (ST.out.below bb)
  replace H1 := Lib.hid (H1.out.below bb)
  replace H2 := Lib.hid (H2.out.below bb)
  clear h1 h2 bb RK
  have GLE : Hid (gi ≤ 60) := Lib.hid (by have h1 : (giftOf S1.l S2.c).length ≤ S1.l.length := List.length_filter_le _ _; rw [hg.out] at h1; have := GI.out; have := LL1.out; omega)
  have SZ : Hid (W9.heap.size ≤ X2.heap.size ∧ X2.heap.size ≤ X2.heap.size) := Lib.hid ⟨KA.out.1, Nat.le_refl _⟩
  go_wp2_with fail
  refine (hhear_any p2 mb2 sp2 G2 SF2' S2 ga gi gc g gz _ H2.out I2.out GE.out (fun W hs => (KG.out.step hs (fun k hk => .inl (L3.out k hk))).rd) SUB.out (by have := LL2.out; have := GLE.out; omega)).mono ?_
  rintro e X3 ⟨rfl, G3, SF3, h1, h2, h3⟩
  have NW := Lib.hid h3
  replace KA := Lib.hid (KA.out.step h2 (fun k hk => .inl (L2.out k hk)))
  replace KG := Lib.hid (KG.out.step h2 (fun k hk => .inl (L3.out k hk)))
  have L1 := Lib.hid H1.out.lt
  replace H1 := Lib.hid (H1.out.same h2 (fun k hk h => ST.out.ne k h hk))
  replace ST := Lib.hid (ST.out.two h2 h3 L1.out)
  rw [GP.out.1] at h1 ⊢
  rw [GI.out]
  dsimp only at h1 ⊢
  replace H2 := Lib.hid h1
  clear h1 h2 h3 L1
  have L4 : Hid (∀ k, houF p2 mb2 G3 SF3 k → k < W8.heap.size ∨ X2.heap.size ≤ k) := Lib.hid (fun k hk => (NW.out k hk).imp (L2.out k) id)
  have L5 : Hid (∀ k, houF p2 mb2 G3 SF3 k → k < X1.heap.size ∨ X2.heap.size ≤ k) := Lib.hid (fun k hk => (NW.out k hk).imp (L3.out k) id)
  have LL3 : Hid (S3.l.length ≤ 200) := Lib.hid (by have h1 := GP.out.2.2.1; rw [GP.out.2.1]; have := GI.out; have := LL2.out; have := GLE.out; omega)
  go_wp2_with fail
  refine (hhear_any p2 mb2 sp2 G3 SF3 S3 ga gi gc g gz _ H2.out GP.out.2.2.2.2 GE.out (fun W hs => (KG.out.step hs L5.out).rd) SUB.out (by have := LL3.out; have := GLE.out; omega)).mono ?_
  rintro e X4 ⟨rfl, G4, SF4, h1, h2, h3⟩
  replace KA := Lib.hid (KA.out.step h2 (fun k hk => (L4.out k hk).imp id (fun h => Nat.le_trans SZ.out.1 h)))
  have L1 := Lib.hid H1.out.lt
  replace ST := Lib.hid (ST.out.two h2 h3 L1.out)
  rw [GP.out.2.2.2.1] at h1 ⊢
  dsimp only at h1 ⊢
  replace H2 := Lib.hid h1
  clear h1 h2 h3 L1 KG NW L2 L3 L4 L5
  have tq : ((gi : Int) == wrap64 ((un : Int) - (yn : Int))) = true := by
    have h1 := GP.out.2.2.1
    rw [List.length_map, UN.out, YN.out, GI.out] at h1
    have h2 : (un : Int) - (yn : Int) = (gi : Int) := by omega
    have h3 := GLE.out
    rw [h2, show wrap64 (gi : Int) = (gi : Int) from by unfold wrap64; omega]
    simp
  go_wp2_with fail
  refine (hnotes2_any p2 mb2 sp2 G4 SF4 S3 _ H2.out GP.out.2.2.2.2 (by have := LL3.out; omega)).mono ?_
  rintro e X5 ⟨⟨ya2, yn2, yc2, yz2, rfl, h1, h2⟩, bb⟩
  have RY : Hid (RdNs X5 ya2 yn2 yc2 S3.l) := Lib.hid (by rw [← h2]; exact h1.rd)
  have RA : Hid (RdNs X5 ua un uc S3.l) := Lib.hid (by rw [GP.out.2.1]; exact rdNs_of (rdA_ls (KA.out.below bb).rd) (fun x hx => ls_ok (KA.out.below bb).rd hx))
  replace ST := Lib.hid (ST.out.below bb)
  clear h1 h2 bb tq
  go_wp2_with fail
  refine (sameNotes9_eq S3.l ya2 yn2 yc2 ua un uc _ RY.out RA.out (fun x hx => by
    have hv := GP.out.2.2.2.2.v
    have hf := GP.out.2.2.2.2.frm x hx
    exact ⟨formed_small hv hf, Nat.le_trans (formed_len hv hf) (by decide)⟩)).mono ?_
  rintro e X6 ⟨rfl, bb⟩
  replace ST := Lib.hid (ST.out.below bb)
  clear bb
  go_wp2_with fail
  go_ret
  exact ⟨rfl, ST.out.bel⟩
end Go.Proofs.YtlnhppgfhkkidaaGreat
namespace Go.Proofs.YtlnhppgfhkkidaaGreat
open Go.ChangeShapes Go.WideShapes Go.ChangeAt Go.RowKit

set_option maxRecDepth 100000 in
theorem talliesGap_lifted (os : Os) (started : os.Started) (H : Type) (enc : TypeId × Value → H) :
    ReturnsInHanded {} Tryz.checked os 3 .any (Rows.talliesGapSpec.pre6 enc Tryz.prog Tryz.f3 Rows.talliesGapRow.domain false) (Rows.talliesGapSpec.post enc Tryz.prog Tryz.f3 false true false false) := by
  refine returnsInHanded_of_change (C := Tryz.checked) Tryz.own started (by kernel_rfl) Tryz.func3
    (ChangeSpec.witness6 (enc := enc) (C := Tryz.checked) false ⟨#[], #[.agg #[.int .i64 0, .int .i64 0, .int .i64 0], .slice none 0 0, .slice none 0 0], []⟩ 8 (by kernel_rfl) (by kernel_rfl) (by kernel_rfl) (by kernel_rfl)) ?_
  intro W base args ds gs before hval0 hW hcnd _
  have hval : ∀ (j : Nat) t v, Tryz.f3.params[j]? = some t → args[j]? = some v → Value.okWide Tryz.prog W .any base t v := hval0
  have hW' := hW
  obtain ⟨p, q, hA0, hV, rfl, hfz, hnd⟩ := hW
  have hA : DataW.TrodAll enc Tryz.prog W 0 (fun _ => true) true Tryz.f3.params.toList args.toList ds p := hA0
  have hA1 := hA
  rw [Tryz.params3] at hA hval
  obtain ⟨v0, v1, v2, d0, d1, d2, p0, p1, p2, rfl, rfl, rfl, h0, h1, h2⟩ := trodAll_three hA
  obtain ⟨rfl, rfl⟩ := trodVars_none hV
  obtain ⟨f, rfl⟩ := hopen_frame (hval 0 23 v0 rfl rfl) h0
  obtain ⟨a, n, c, l, rfl, r1, r2⟩ := open_notes (hval 1 24 v1 rfl rfl) h1
  obtain ⟨a2, n2, c2, m, rfl, r3, r4⟩ := open_notes (hval 2 24 v2 rfl rfl) h2
  clear hA0 hval0
  simp only [List.append_nil] at hW'
  refine (gap_any f a n c l a2 n2 c2 m W r1 r2 r3 r4).mono fun e W' ⟨he, hb⟩ => ?_
  subst he
  exact ⟨_, rfl, post_of_law Tryz.laidOut Tryz.underlying4 rfl (by kernel_rfl) (by kernel_rfl) hW' hA1 rfl hb⟩

theorem talliesGap_holds : Rows.TalliesGapSaid :=
  OpenClaim.holds_of_wide 3 Tryz.f3 rfl rfl rfl rfl rfl rfl rfl ⟨rfl, rfl, rfl, rfl, rfl⟩ rfl rfl rfl rfl rfl (by kernel_rfl) Tryz.func3 (by kernel_rfl)
    (of_decide_eq_true (by kernel_rfl)) (by unfold Func.isWrapper; first | (rw [if_pos (by decide +kernel)]; kernel_rfl) | (rw [if_neg (by decide +kernel)]; exact ⟨rfl, rfl⟩))
    (fun os started H enc _ => talliesGap_lifted os started H enc)
#print axioms talliesGap_holds
end Go.Proofs.YtlnhppgfhkkidaaGreat
