/- The given row HistoryFolds, proved: whatever the input, true, and the input reads as it did. -/
import Derived.Test.YtpjiakgfegnmcaaGreatKPhf14
set_option linter.unusedSimpArgs false
set_option linter.unusedVariables false
open List renaming getElem_toArray → lq0, getElem_cons_succ → lq1, getElem_cons_zero → lq2, setIfInBounds_toArray → lq3, set_cons_zero → lq4, set_cons_succ → lq5
namespace Go.Proofs.YtpjiakgfegnmcaaGreat
set_option linter.unusedSimpArgs false
open Go.RowKit

theorem lnRows (ys : List LN) : ∀ r ∈ ys.map (fun x => x.n.cells x.sa x.sc), r.length = 19 := by
  intro r hr; obtain ⟨e, _, rfl⟩ := List.mem_map.1 hr; rfl
theorem lnCells_take (ys : List LN) (q : Nat) : (lnCells ys).take (q * 19) = lnCells (ys.take q) := by
  rw [lnCells, flat_take 19 _ (lnRows ys), ← List.map_take]; rfl
theorem lnCells_drop (ys : List LN) (q : Nat) : (lnCells ys).drop (q * 19) = lnCells (ys.drop q) := by
  rw [lnCells, flat_drop 19 _ (lnRows ys), ← List.map_drop]; rfl
theorem info_nt : ∃ i, Tryz.prog.info? 51 = some i ∧ i.size = 19 := by
  obtain ⟨i, hi, _, hz1, _⟩ := info_parts infoNote
  exact ⟨i, hi, hz1⟩
def hasB (l : List NoteV) (a : Nm) : Bool := l.any (fun x => decide (nmOf x = a) && doneB x)
def chainV (f : FrV) (l : List NoteV) (a : Nm) : List Nm × Int := if (checkSetP f l).1 = 0 then (if hasB l a = true then ((chainS l a).map nmOf, 0) else ([], 3)) else ([], 1)
def ChainRet (f : FrV) (l : List NoteV) (a : Nm) (e : Ending) (W : World) : Prop := ∃ (ca : Option Addr) (cn cc : Nat), e = .returned (.tuple #[.slice ca cn cc, .int .i64 (chainV f l a).2]) ∧ RdA W 2 ca cn cc (nmCells (chainV f l a).1)
theorem has_no {l : List NoteV} {a : Nm} (h : ∀ x ∈ l, nmOf x ≠ a) : hasB l a = false := by
  unfold hasB
  rw [List.any_eq_false]
  intro x hx
  simp [h x hx]
theorem has_at {l : List NoteV} {x : NoteV} (hd : (l.map nmOf).Nodup) (hx : x ∈ l) : hasB l (nmOf x) = doneB x := by
  unfold hasB
  cases h : doneB x with
  | true => rw [List.any_eq_true]; exact ⟨x, hx, by simp [h]⟩
  | false =>
    rw [List.any_eq_false]
    intro y hy
    by_cases e : nmOf y = nmOf x
    · rw [nodup_inj hd hy hx e]; simp [h]
    · simp [e]
structure ChSt (w W : World) (a : Option Addr) (n c : Nat) (ys : List LN) (l : List NoteV) (nm : Nm) (k : Nat) : Prop where
  bel : Below w.heap.size w W
  own : W.ownsRow w.heap.size 51 19 (.slice a n c) n (lnCells ys)
  ok : ∀ y ∈ ys, y.ok W
  ev : ys.map LN.n = chTo l nm k
section
variable {w W W' : World} {a : Option Addr} {n c : Nat} {ys : List LN} {l : List NoteV} {nm : Nm} {k : Nat}
theorem ChSt.below (h : ChSt w W a n c ys l nm k) (hb : Below W.heap.size W W') : ChSt w W' a n c ys l nm k :=
  ⟨h.bel.trans (hb.mono h.bel.size), own_below h.own hb, fun e he => (h.ok e he).below hb, h.ev⟩
theorem ChSt.start (w : World) (l : List NoteV) (nm : Nm) : ChSt w w none 0 0 [] l nm 0 := ⟨Below.refl _ _, World.ownsRow_nil _ _ _ _, fun e h => by simp at h, rfl⟩
theorem ChSt.len (h : ChSt w W a n c ys l nm k) : ys.length = n ∧ n ≤ k := by
  have h1 := (RdA.of_own h.own).len
  rw [lnCells_len] at h1
  have h2 := congrArg List.length h.ev
  rw [List.length_map] at h2
  have h3 := chTo_len l nm k
  omega
theorem ChSt.skip {x : NoteV} (h : ChSt w W a n c ys l nm k) (hx : l[k]? = some x) (hc : chB nm x = false) : ChSt w W a n c ys l nm (k + 1) :=
  ⟨h.bel, h.own, h.ok, by rw [chTo_skip hx hc]; exact h.ev⟩
end
def putL (ys : List LN) (q : Nat) (e : LN) : List LN := ys.take q ++ (e :: ys.drop q)
theorem putL_ev {ys : List LN} {l : List NoteV} {nm : Nm} {k q : Nat} {x : LN} (h : ys.map LN.n = chTo l nm k) (hx : l[k]? = some x.n) (hc : chB nm x.n = true) (hq : q ≤ ys.length) (h1 : ∀ j y, j < q → ys[j]? = some y → knownC y.n x.n < 0) (h2 : ∀ y, ys[q]? = some y → ¬ knownC y.n x.n < 0) :
    (putL ys q x).map LN.n = chTo l nm (k + 1) := by
  rw [chTo_add hx hc, ← h, insG_at knownLt x.n _ q (by rw [List.length_map]; exact hq) (fun j y hj hy => ?_) (fun y hy => ?_)]
  · simp [putL, List.map_take, List.map_drop]
  · rw [List.getElem?_map] at hy
    cases hz : ys[j]? with
    | none => rw [hz] at hy; cases hy
    | some z => rw [hz] at hy; cases hy; exact decide_eq_true (h1 j z hj hz)
  · rw [List.getElem?_map] at hy
    cases hz : ys[q]? with
    | none => rw [hz] at hy; cases hy
    | some z => rw [hz] at hy; cases hy; exact decide_eq_false (h2 z hz)
theorem mem_putL {ys : List LN} {q : Nat} {e y : LN} (h : y ∈ putL ys q e) : y = e ∨ y ∈ ys := by
  unfold putL at h
  rcases List.mem_append.1 h with h | h
  · exact .inr (List.mem_of_mem_take h)
  · rcases List.mem_cons.1 h with h | h
    · exact .inl h
    · exact .inr (List.mem_of_mem_drop h)
theorem putL_cells (ys : List LN) (q : Nat) (e : LN) : lnCells (ys.take q) ++ e.n.cells e.sa e.sc ++ lnCells (ys.drop q) = lnCells (putL ys q e) := by
  simp [putL, lnCells]
theorem chB_eq (nm : Nm) (x : NoteV) (h : doneB x = false) : chB nm x = decide (x.refH = nm.1 ∧ x.refN = nm.2) := by
  unfold chB
  rw [h, Bool.not_false, Bool.true_and, decide_eq_decide, Prod.ext_iff]
  rfl

set_option maxHeartbeats 16000000 in
set_option maxRecDepth 100000 in
theorem rchain_any (f : FrV) (a : Option Addr) (nn nc : Nat) (l : List NoteV) (h m : Int) (w : World) (hr : RdNs w a nn nc l) :
    Calls Tryz.prog 35 #[f.val, .slice a nn nc, .agg #[.int .i64 h, .int .i64 m]] w fun e w' => ChainRet f l (h, m) e w' ∧ Below w.heap.size w w' := by
  have J19 : (Tryz.prog.info? 51).map (·.size) = some 19 := by kernel_rfl
  have IS := Lib.hid (fun W hb => risSet_any f a nn nc l W (hr.below (show Below w.heap.size w W from hb)))
  obtain ⟨xs, hxs, hrl⟩ := hr.choose
  have RL := Lib.hid hrl
  have HXS := Lib.hid hxs
  have LNX := Lib.hid hrl.1
  have HLN := Lib.hid hr.1
  have RN := Lib.hid hr
  have LOK := Lib.hid (show ∀ W, Below w.heap.size w W → ∀ x ∈ xs, x.ok W from fun W hb x hx => (ls_ok hrl hx).below hb)
  have hvl : f.val = .agg #[.int .i64 f.rings, .int .i64 f.sectors, .int .i64 f.wide] := rfl
  rw [hvl] at IS ⊢
  clear hvl hr hxs hrl
  have B0 := Lib.hid (((Below.refl w.heap.size w).alloc (Nat.le_refl _) (.cells #[.int .i64 f.rings, .int .i64 f.sectors, .int .i64 f.wide] 23)).alloc (by simp) (.cells #[.int .i64 h, .int .i64 m] 29))
  have F0 := Lib.hid (heap_before _ (.cells #[.int .i64 h, .int .i64 m] 29) _ _ (heap_last w (.cells #[.int .i64 f.rings, .int .i64 f.sectors, .int .i64 f.wide] 23)))
  have P0 := Lib.hid (heap_at (w.alloc (.cells #[.int .i64 f.rings, .int .i64 f.sectors, .int .i64 f.wide] 23)) (.cells #[.int .i64 h, .int .i64 m] 29) (w.heap.size + 1) (by simp))
  go_enter Tryz.func35, Tryz.ntmps35
  go_upto_region 1 with fail
  obtain ⟨pF, hpF⟩ : ∃ p, Hid (w.heap.size = p) := ⟨_, Lib.hid rfl⟩
  obtain ⟨p5, hp5⟩ : ∃ p, Hid (w.heap.size + 1 = p) := ⟨_, Lib.hid rfl⟩
  rw [hpF.out] at F0
  rw [hp5.out] at P0
  rw [hp5.out, hpF.out]
  generalize (w.alloc (.cells #[.int .i64 f.rings, .int .i64 f.sectors, .int .i64 f.wide] 23)).alloc (.cells #[.int .i64 h, .int .i64 m] 29) = W0 at *
  have c0 := cell_of F0.out 0 (.int .i64 f.rings) rfl
  have c1 := cell_of F0.out 1 (.int .i64 f.sectors) rfl
  have c2 := cell_of F0.out 2 (.int .i64 f.wide) rfl
  go_wp2_with fail
  refine (IS.out W0 B0.out).mono ?_
  clear c0 c1 c2
  rintro e W1 ⟨rfl, b1⟩
  have B1 := Lib.hid (B0.out.trans (b1.mono B0.out.size))
  have P1 := Lib.hid (below_blk b1 P0.out)
  clear b1 B0 F0 P0
  by_cases hs : (checkSetP f l).1 = 0
  case neg =>
    have t0 : ((checkSetP f l).1 == 0) = false := by simp [hs]
    rw [t0]
    have HS := Lib.hid hs
    clear hs t0
    go_wp2_with fail
    go_returns
    have e : chainV f l (h, m) = ([], 1) := by unfold chainV; rw [if_neg HS.out]
    exact ⟨⟨none, 0, 0, by rw [e] <;> rfl, by rw [e]; exact RdA.nil _ _⟩, B1.out⟩
  have t0 : ((checkSetP f l).1 == 0) = true := by simp [hs]
  rw [t0]
  have HS := Lib.hid hs
  have HN4 := Lib.hid (show nn ≤ 400 by have := (set_ok hs).2.1; rw [RN.out.1] at this; exact this)
  clear hs t0
  have q0 := cell_of P1.out 0 (.int .i64 h) rfl
  have q1 := cell_of P1.out 1 (.int .i64 m) rfl
  go_wp2_with fail
  refine (rfind_any l a nn nc h m W1 (RN.out.below B1.out) (Nat.le_trans HN4.out (by decide))).mono ?_
  clear q0 q1
  rintro e W2 ⟨⟨i, rfl, hf⟩, b2⟩
  have B2 := Lib.hid (B1.out.trans (b2.mono B1.out.size))
  have P2 := Lib.hid (below_blk b2 P1.out)
  clear b2 B1 P1
  rcases hf with ⟨rfl, hno⟩ | ⟨j, x, rfl, hx, hnm⟩
  · have e : Hid (chainV f l (h, m) = ([], 3)) := Lib.hid (by unfold chainV; rw [if_pos HS.out, if_neg (by rw [has_no hno]; decide)])
    clear hno
    go_wp2_with fail
    go_returns
    exact ⟨⟨none, 0, 0, by rw [e.out] <;> rfl, by rw [e.out]; exact RdA.nil _ _⟩, B2.out⟩
  have HB := Lib.hid (show hasB l (h, m) = doneB x by rw [← hnm]; exact has_at (set_nodup (set_ok HS.out).2.2.2) (List.mem_of_getElem? hx))
  have HX := Lib.hid hx
  clear hx hnm
  obtain ⟨y, Hy⟩ : ∃ y, xs[j]? = some y := by
    have h1 := HX.out
    rw [← HXS.out, List.getElem?_map] at h1
    cases h2 : xs[j]? with
    | none => rw [h2] at h1; cases h1
    | some y => exact ⟨y, rfl⟩
  have HYX : x = y.n := by
    have h1 := HX.out
    rw [← HXS.out, List.getElem?_map, Hy] at h1
    exact (Option.some.inj h1).symm
  subst HYX
  have hjn : j < nn := by have := (List.getElem?_eq_some_iff.1 Hy).1; rw [LNX.out] at this; exact this
  obtain ⟨b, off, rfl, hat⟩ := RL.out.at (by omega)
  obtain ⟨o, ho⟩ : ∃ o, Hid (off + j * 19 = o) := ⟨_, Lib.hid rfl⟩
  have HYA := Lib.hid (rangeAt_below (hat j y Hy).1 B2.out)
  rw [ho.out] at HYA
  have HAT := Lib.hid (fun (i : Nat) (z : LN) (hz : xs[i]? = some z) (W : World) (hb : Below w.heap.size w W) => rangeAt_below (hat i z hz).1 hb)
  have hix := fun W => idx_off (W := W) (c := nc) (b := b) Tryz.underlying43 J19 hjn ho.out
  have tneg : decide ((j : Int) < 0) = false := by simp
  clear hat Hy
  go_wp2_with (refine wpList_load_midW (by kernel_rfl) 51 _ rfl b o rfl (y.n.cells y.sa y.sc) _ HYA.out Tryz.underlying51 rfl (size43 y.n y.sa y.sc) ?_)
  refine (plain_any y.n y.sa y.sc W2).mono ?_
  rintro e W3 ⟨rfl, b3⟩
  have B3 := Lib.hid (B2.out.trans (b3.mono B2.out.size))
  have P3 := Lib.hid (below_blk b3 P2.out)
  clear b3 B2 P2 HYA hix tneg
  cases hd : doneB y.n
  · have e : Hid (chainV f l (h, m) = ([], 3)) := Lib.hid (by unfold chainV; rw [if_pos HS.out, if_neg (by rw [HB.out, hd]; decide)])
    clear hd
    go_wp2_with fail
    go_returns
    exact ⟨⟨none, 0, 0, by rw [e.out] <;> rfl, by rw [e.out]; exact RdA.nil _ _⟩, B3.out⟩
  have CE : Hid (chainV f l (h, m) = ((chainS l (h, m)).map nmOf, 0)) := Lib.hid (by unfold chainV; rw [if_pos HS.out, if_pos (by rw [HB.out, hd])])
  clear hd HB HX
  have hn4 := HN4.out
  go_wp2_with fail
  go_loopw [9, 10] (fun ov i wr => ∃ (k : Nat) (oa : Option Addr) (on oc : Nat) (ys : List LN), ov = .slice oa on oc ∧ i = .int .i64 (k : Int) ∧ k ≤ nn ∧ Hid (ChSt W3 wr oa on oc ys l (h, m) k)) (fun _ i _ => nn - (intOf i).toNat)
  case atStart => exact ⟨0, none, 0, 0, [], rfl, rfl, Nat.zero_le _, Lib.hid (ChSt.start W3 l (h, m))⟩
  case round =>
    obtain ⟨k, oa, on, oc, ys, rfl, rfl, hk, ST⟩ := hrel
    by_cases hlt : k < nn
    · have t0 : decide ((k : Int) < (nn : Int)) = true := by simp; omega
      obtain ⟨x, Hx⟩ : ∃ x, xs[k]? = some x := ⟨_, List.getElem?_eq_getElem (by rw [LNX.out]; exact hlt)⟩
      have HLX := Lib.hid (show l[k]? = some x.n by rw [← HXS.out, List.getElem?_map, Hx]; rfl)
      have BW := Lib.hid (B3.out.trans (ST.out.bel.mono B3.out.size))
      have XOK := Lib.hid (show ∀ W, Below w.heap.size w W → x.ok W from fun W hb => LOK.out W hb x (List.mem_of_getElem? Hx))
      obtain ⟨o2, ho2⟩ : ∃ o, Hid (off + k * 19 = o) := ⟨_, Lib.hid rfl⟩
      have HXA := Lib.hid (show ∀ W, Below w.heap.size w W → W.rangeAt b o2 (x.n.cells x.sa x.sc) from fun W hb => by rw [← ho2.out]; exact HAT.out k x Hx W hb)
      have HIX := Lib.hid (fun W => idx_off (W := W) (c := nc) (b := b) Tryz.underlying43 J19 hlt ho2.out)
      have HK64 : Hid ((k : Int) + 1 ≤ 9223372036854775807) := Lib.hid (by omega)
      have LX := Lib.hid (show ∀ w0, Below wr.heap.size wr w0 → w0.rangeAt b o2 (x.n.cells x.sa x.sc) from fun w0 hb => HXA.out w0 (BW.out.trans (hb.mono BW.out.size)))
      have LP := Lib.hid (show ∀ w0, Below wr.heap.size wr w0 → w0.heap[p5]? = some (.cells #[.int .i64 h, .int .i64 m] 29 (0, 0)) from fun w0 hb => below_blk hb (below_blk ST.out.bel P3.out))
      have hC0 : Below wr.heap.size wr wr.drew := (Below.refl _ _).drew
      clear Hx
      go_upto_region 10 with fail
      clear t0
      try simp only [Act.put, lq3, lq4, lq5]
      refine wp_region_quiet (C := fun w' : World => Below wr.heap.size wr w') (by kernel_rfl) (by kernel_rfl) hC0 ?_
      show wpQuiet _ _ _ _ (_ :: _) _
      go_big_quiet_want
      go_big_quiet_op
      go_big_quiet_on
      go_big_quiet_want
      go_big_quiet_op
      go_big_quiet_on
      go_big_quiet_want
      refine ⟨.pointer (some ⟨b, o2, none⟩), fun w0 hC => ?_, ?_⟩
      · have hix := HIX.out w0
        clear hC
        go_simp
      simp only [Act.put, lq3, lq4, lq5]
      go_big_quiet_on
      go_big_quiet_want
      refine ⟨.agg (noteA x.n x.sa x.sc), fun w0 hC => quiet_load_note (.tmp 40) rfl b o2 rfl x.n x.sa x.sc (LX.out w0 hC), ?_⟩
      simp only [Act.put, lq3, lq4, lq5]
      go_big_quiet_on
      go_big_quiet_want
      refine ⟨.bool (doneB x.n), fun w0 hC => ?_, ?_⟩
      · go_simp
        refine (plain_any x.n x.sa x.sc w0).mono ?_
        rintro e w1 ⟨rfl, b1⟩
        exact ⟨rfl, hC.trans (b1.mono hC.size)⟩
      simp only [Act.put, lq3, lq4, lq5]
      go_big_quiet_on
      cases hdx : doneB x.n
      · go_big_quiet_want
        go_big_quiet_op
        go_big_quiet_on
        go_big_quiet_want
        go_big_quiet_op
        go_big_quiet_on
        go_big_quiet_want
        go_big_quiet_op
        go_big_quiet_on
        go_big_quiet_want
        refine ⟨.pointer (some ⟨b, o2, none⟩), fun w0 hC => ?_, ?_⟩
        · have hix := HIX.out w0
          clear hC
          go_simp
        simp only [Act.put, lq3, lq4, lq5]
        go_big_quiet_on
        go_big_quiet_want
        refine ⟨.pointer (some ⟨b, o2 + 16, none⟩), fun w0 hC => ?_, ?_⟩
        · clear hC
          go_simp
        simp only [Act.put, lq3, lq4, lq5]
        go_big_quiet_on
        go_big_quiet_want
        refine ⟨.agg #[.int .i64 x.n.refH, .int .i64 x.n.refN], fun w0 hC => ?_, ?_⟩
        · have c0 := LX.out w0 hC 16 (.int .i64 x.n.refH) rfl
          have c1 := LX.out w0 hC 17 (.int .i64 x.n.refN) rfl
          clear hC
          go_simp
        simp only [Act.put, lq3, lq4, lq5]
        go_big_quiet_on
        go_big_quiet_want
        refine ⟨.agg #[.int .i64 h, .int .i64 m], fun w0 hC => ?_, ?_⟩
        · have c0 := cell_of (LP.out w0 hC) 0 (.int .i64 h) rfl
          have c1 := cell_of (LP.out w0 hC) 1 (.int .i64 m) rfl
          clear hC
          go_simp
        simp only [Act.put, lq3, lq4, lq5]
        go_big_quiet_on
        go_big_quiet_want
        refine ⟨.bool (!decide (x.n.refH = h ∧ x.n.refN = m)), fun w0 hC => ?_, ?_⟩
        · clear hC
          go_simp
          try (by_cases h1 : x.n.refH = h <;> by_cases h2 : x.n.refN = m <;> simp [h1, h2])
        simp only [Act.put, lq3, lq4, lq5]
        go_big_quiet_on
        cases hq : decide (x.n.refH = h ∧ x.n.refN = m)
        · go_big_quiet_want
          refine ⟨.bool true, fun w0 hC => ?_, ?_⟩
          · clear hC
            go_simp
          simp only [Act.put, lq3, lq4, lq5]
          go_big_quiet_on
          refine wpQuiet_nil ?_
          intro w' hC
          have ST2 := Lib.hid (ST.out.below hC)
          have CB : Hid (chB (h, m) x.n = false) := Lib.hid (by rw [chB_eq _ _ hdx]; exact hq)
          clear hC
          have hk64 := HK64.out
          go_wp2_with fail
          go_roundw
          case rel => exact ⟨k + 1, oa, on, oc, ys, by go_num, by go_num, by omega, Lib.hid (ST2.out.skip HLX.out CB.out)⟩
          case measure => simp [intOf]; omega
        · go_big_quiet_want
          refine ⟨.bool false, fun w0 hC => ?_, ?_⟩
          · clear hC
            go_simp
          simp only [Act.put, lq3, lq4, lq5]
          go_big_quiet_on
          refine wpQuiet_nil ?_
          intro w' hC
          have ST2 := Lib.hid (ST.out.below hC)
          have CB : Hid (chB (h, m) x.n = true) := Lib.hid (by rw [chB_eq _ _ hdx]; exact hq)
          have BV := Lib.hid (BW.out.trans (hC.mono BW.out.size))
          clear hC hq hdx LX LP ST BW
          generalize w' = V at *
          have LEN := Lib.hid ST2.out.len
          go_wp2_with fail
          go_loopw [11] (fun qv wr2 => ∃ q : Nat, qv = .int .i64 (q : Int) ∧ q ≤ on ∧ Hid (∀ j y, j < q → ys[j]? = some y → knownC y.n x.n < 0) ∧ Hid (Below V.heap.size V wr2)) (fun qv _ => on - (intOf qv).toNat)
          case atStart => exact ⟨0, rfl, Nat.zero_le _, Lib.hid (fun j y h => by omega), Lib.hid (Below.refl _ _)⟩
          case round =>
            obtain ⟨q, rfl, hq, HJ, BQ⟩ := hrel
            have hC0 : Below wr.heap.size wr wr.drew := (Below.refl _ _).drew
            by_cases hql : q < on
            · have HT0 : Hid (decide ((q : Int) < (on : Int)) = true) := Lib.hid (by simp; omega)
              have HQ64 : Hid ((q : Int) + 1 ≤ 9223372036854775807) := Lib.hid (by have := LEN.out.2; omega)
              obtain ⟨z, Hz⟩ : ∃ z, ys[q]? = some z := ⟨_, List.getElem?_eq_getElem (by rw [LEN.out.1]; exact hql)⟩
              have HZ := Lib.hid Hz
              obtain ⟨be, eo, rfl, hat⟩ := ln_at (RdA.of_own (own_below ST2.out.own BQ.out)) (by omega)
              obtain ⟨oz, hoz⟩ : ∃ o, Hid (eo + q * 19 = o) := ⟨_, Lib.hid rfl⟩
              have HZA := Lib.hid (hat q z Hz)
              rw [hoz.out] at HZA
              have HIZ := Lib.hid (fun W => idx_off (W := W) (c := oc) (b := be) Tryz.underlying43 J19 hql hoz.out)
              have LZ := Lib.hid (show ∀ w0, Below wr.heap.size wr w0 → w0.rangeAt be oz (z.n.cells z.sa z.sc) from fun w0 h => rangeAt_below HZA.out h)
              have LX := Lib.hid (show ∀ w0, Below wr.heap.size wr w0 → w0.rangeAt b o2 (x.n.cells x.sa x.sc) from fun w0 hb => HXA.out w0 (BV.out.trans ((BQ.out.trans (hb.mono BQ.out.size)).mono BV.out.size)))
              clear hat Hz
              go_upto_region 12 with fail
              try simp only [Act.put, lq3, lq4, lq5]
              refine wp_region_quiet (C := fun w' : World => Below wr.heap.size wr w') (by kernel_rfl) (by kernel_rfl) hC0 ?_
              show wpQuiet _ _ _ _ (_ :: _) _
              go_big_quiet_want
              go_big_quiet_op
              go_big_quiet_on
              go_big_quiet_want
              go_big_quiet_op
              go_big_quiet_on
              go_big_quiet_want
              refine ⟨.int .i64 (on : Int), fun w0 hC => ?_, ?_⟩
              · clear hC
                go_simp
              simp only [Act.put, lq3, lq4, lq5]
              go_big_quiet_on
              go_big_quiet_want
              refine ⟨.bool true, fun w0 hC => ?_, ?_⟩
              · have h0 := HT0.out
                clear hC
                go_simp
              simp only [Act.put, lq3, lq4, lq5]
              go_big_quiet_on
              go_big_quiet_want
              go_big_quiet_op
              go_big_quiet_on
              go_big_quiet_want
              go_big_quiet_op
              go_big_quiet_on
              go_big_quiet_want
              go_big_quiet_op
              go_big_quiet_on
              go_big_quiet_want
              refine ⟨.pointer (some ⟨be, oz, none⟩), fun w0 hC => ?_, ?_⟩
              · have hix := HIZ.out w0
                clear hC
                go_simp
              simp only [Act.put, lq3, lq4, lq5]
              go_big_quiet_on
              go_big_quiet_want
              refine ⟨.agg (noteA z.n z.sa z.sc), fun w0 hC => quiet_load_note (.tmp 59) rfl be oz rfl z.n z.sa z.sc (LZ.out w0 hC), ?_⟩
              simp only [Act.put, lq3, lq4, lq5]
              go_big_quiet_on
              go_big_quiet_want
              go_big_quiet_op
              go_big_quiet_on
              go_big_quiet_want
              go_big_quiet_op
              go_big_quiet_on
              go_big_quiet_want
              refine ⟨.pointer (some ⟨b, o2, none⟩), fun w0 hC => ?_, ?_⟩
              · have hix := HIX.out w0
                clear hC
                go_simp
              simp only [Act.put, lq3, lq4, lq5]
              go_big_quiet_on
              go_big_quiet_want
              refine ⟨.agg (noteA x.n x.sa x.sc), fun w0 hC => quiet_load_note (.tmp 63) rfl b o2 rfl x.n x.sa x.sc (LX.out w0 hC), ?_⟩
              simp only [Act.put, lq3, lq4, lq5]
              go_big_quiet_on
              go_big_quiet_want
              refine ⟨.bool (decide (knownC z.n x.n < 0)), fun w0 hC => ?_, ?_⟩
              · go_simp
                refine (rknown_any z.n x.n z.sa z.sc x.sa x.sc w0).mono ?_
                rintro e w1 ⟨rfl, b1⟩
                exact ⟨rfl, hC.trans (b1.mono hC.size)⟩
              simp only [Act.put, lq3, lq4, lq5]
              go_big_quiet_on
              cases hw : decide (knownC z.n x.n < 0)
              · go_big_quiet_want
                refine ⟨.bool false, fun w0 hC => ?_, ?_⟩
                · clear hC
                  go_simp
                simp only [Act.put, lq3, lq4, lq5]
                go_big_quiet_on
                refine wpQuiet_nil ?_
                intro wq hC
                have QN : Hid (∀ y, ys[q]? = some y → ¬ knownC y.n x.n < 0) := Lib.hid (fun y hy => by rw [HZ.out] at hy; cases hy; exact of_decide_eq_false hw)
                have BQ2 := Lib.hid (BQ.out.trans (hC.mono BQ.out.size))
                clear hC hw LZ LX HZA BQ HT0
                replace ST2 := Lib.hid (ST2.out.below BQ2.out)
                have BWQ := Lib.hid (BV.out.trans (BQ2.out.mono BV.out.size))
                have QL : Hid (q ≤ on) := Lib.hid (by omega)
                have HS5 : Hid (on ≤ 400) := Lib.hid (by have := LEN.out.2; omega)
                obtain ⟨ia, hi1, hi2⟩ := info_nt
                obtain ⟨a1, hcut1, hrd1⟩ := cutR_eq Tryz.underlying43 hi1 hi2 (RdA.of_own ST2.out.own) 0 q none (some (.int .i64 (q : Int))) (.inl ⟨rfl, rfl⟩) (.inr ⟨_, rfl⟩) (Nat.zero_le _) QL.out
                simp only [Nat.zero_mul, List.drop_zero, Nat.sub_zero, lnCells_take] at hcut1 hrd1
                have hbe : Below wq.heap.size wq (wq.alloc (.cells #[] 51)) := (Below.refl _ _).alloc (Nat.le_refl _) _
                have o0 := World.ownsRow_lit (base := wq.heap.size) (e := 51) (size := 19) wq #[] 0 (Nat.le_refl _) (by unfold maxLen; omega) rfl
                obtain ⟨a2, c2, w2, hrun, ho2, hg2⟩ := run_app_nt (wq.alloc (.cells #[] 51)) wq.heap.size _ 0 0 _ o0 a1 q oc _ (hrd1.below hbe) (lnCells_one _) (by have := HS5.out; have := QL.out; omega) hbe.size
                have hb2 : Below wq.heap.size wq w2 := hbe.grown hg2 hbe.size (fun k hk => (o0.lt k hk).1)
                rw [Nat.zero_add] at hrun ho2
                have O2 : Hid (w2.ownsRow wq.heap.size 51 19 (.slice a2 q c2) q (lnCells (ys.take q))) := Lib.hid (by simpa using ho2)
                have B4 := Lib.hid hb2
                clear hbe o0 ho2 hg2 hb2 hrd1
                go_upto_region 15 with (first
                  | (refine wpList_append_eq rfl _ _ _ rfl _ _ _ rfl rfl hrun ?_)
                  | fail)
                clear hrun hcut1
                try simp only [Act.put, lq3, lq4, lq5]
                have bn : Below w2.heap.size w2 (w2.alloc (.cells (noteA x.n x.sa x.sc) 51)) := (Below.refl _ _).alloc (Nat.le_refl _) _
                obtain ⟨a4, c4, w4, hrun, ho4, hg4⟩ := run_app_nt (w2.alloc (.cells (noteA x.n x.sa x.sc) 51)) wq.heap.size a2 q c2 _ (own_below O2.out bn) _ 1 1 _ (lit_note w2 x.n x.sa x.sc) (x.n.cells_one _ _) (by have := HS5.out; have := QL.out; omega) (Nat.le_trans B4.out.size bn.size)
                have O4 := Lib.hid ho4
                have B5 := Lib.hid (((B4.out.trans (bn.mono B4.out.size))).grown hg4 (Nat.le_trans B4.out.size bn.size) (fun k hk => ((own_below O2.out bn).lt k hk).1))
                clear bn ho4 hg4
                have HX2 := Lib.hid (HXA.out w2 (BWQ.out.trans (B4.out.mono BWQ.out.size)))
                have hix := HIX.out
                go_upto_region 16 with (first
                  | (refine wpList_load_mid rfl 51 _ rfl b o2 rfl (x.n.cells x.sa x.sc) _ HX2.out Tryz.underlying51 rfl (size43 x.n x.sa x.sc) ?_)
                  | (refine wpList_build_note rfl _ rfl x.n x.sa x.sc rfl ?_)
                  | (refine wpList_append_eq rfl _ _ _ rfl _ _ _ rfl rfl hrun ?_)
                  | fail)
                clear hrun hix HX2 O2
                try simp only [Act.put, lq3, lq4, lq5]
                obtain ⟨a6, hcut2, hrd2⟩ := cutR_eq Tryz.underlying43 hi1 hi2 ((RdA.of_own ST2.out.own).below B5.out) q on (some (.int .i64 (q : Int))) none (.inr ⟨_, rfl⟩) (.inl ⟨rfl, rfl⟩) QL.out (Nat.le_refl _)
                rw [lnCells_drop, List.take_of_length_le (by rw [lnCells_len, List.length_drop, LEN.out.1]; exact Nat.le_refl _)] at hrd2
                obtain ⟨a7, c7, w7, hrun, ho, hg⟩ := run_app_nt w4 wq.heap.size a4 (q + 1) c4 _ O4.out a6 (on - q) (oc - q) _ hrd2 (lnCells_one _) (by have := HS5.out; have := QL.out; omega) B5.out.size
                have B7 := Lib.hid (B5.out.grown hg B5.out.size (fun k hk => (O4.out.lt k hk).1))
                have SN : Hid (ChSt W3 w7 a7 (q + 1 + (on - q)) c7 (putL ys q x) l (h, m) (k + 1)) := Lib.hid ⟨ST2.out.bel.trans (B7.out.mono ST2.out.bel.size), by rw [← putL_cells]; exact own_mono ho ST2.out.bel.size, fun e he => by
                  rcases mem_putL he with rfl | he
                  · exact XOK.out w7 (BWQ.out.trans (B7.out.mono BWQ.out.size))
                  · exact (ST2.out.ok e he).below B7.out, putL_ev ST2.out.ev HLX.out CB.out (by rw [LEN.out.1]; exact QL.out) HJ.out QN.out⟩
                clear ho hg hi1 hi2 hrd2 O4 B5
                go_upto_region 9 with (first
                  | (refine wpList_append_eq rfl _ _ _ rfl _ _ _ rfl rfl hrun ?_)
                  | fail)
                clear hrun hcut2
                have hk64 := HK64.out
                go_wp2_with fail
                go_roundw
                case rel => exact ⟨k + 1, a7, q + 1 + (on - q), c7, putL ys q x, by go_num, by go_num, by omega, SN⟩
                case measure => simp [intOf]; omega
              · go_big_quiet_want
                refine ⟨.bool true, fun w0 hC => ?_, ?_⟩
                · clear hC
                  go_simp
                simp only [Act.put, lq3, lq4, lq5]
                go_big_quiet_on
                refine wpQuiet_nil ?_
                intro w' hC
                have BQ2 := Lib.hid (BQ.out.trans (hC.mono BQ.out.size))
                have WT := Lib.hid (of_decide_eq_true hw)
                clear hC hw
                have hq64 := HQ64.out
                go_wp2_with fail
                go_roundw
                case rel => exact ⟨q + 1, by go_num, by omega, Lib.hid (fun i z2 hi hz => by
                  rcases Nat.lt_or_ge i q with h' | h'
                  · exact HJ.out i z2 h' hz
                  · have e : i = q := by omega
                    subst e
                    rw [HZ.out] at hz
                    cases hz
                    exact WT.out), BQ2⟩
                case measure => simp [intOf]; omega
            · have HT0 : Hid (decide ((q : Int) < (on : Int)) = false) := Lib.hid (by simp; omega)
              go_upto_region 12 with fail
              try simp only [Act.put, lq3, lq4, lq5]
              refine wp_region_quiet (C := fun w' : World => Below wr.heap.size wr w') (by kernel_rfl) (by kernel_rfl) hC0 ?_
              show wpQuiet _ _ _ _ (_ :: _) _
              go_big_quiet_want
              go_big_quiet_op
              go_big_quiet_on
              go_big_quiet_want
              go_big_quiet_op
              go_big_quiet_on
              go_big_quiet_want
              refine ⟨.int .i64 (on : Int), fun w0 hC => ?_, ?_⟩
              · clear hC
                go_simp
              simp only [Act.put, lq3, lq4, lq5]
              go_big_quiet_on
              go_big_quiet_want
              refine ⟨.bool false, fun w0 hC => ?_, ?_⟩
              · have h0 := HT0.out
                clear hC
                go_simp
              simp only [Act.put, lq3, lq4, lq5]
              go_big_quiet_on
              go_big_quiet_want
              go_big_quiet_op
              go_big_quiet_on
              go_big_quiet_skip
              go_big_quiet_skip
              go_big_quiet_skip
              go_big_quiet_skip
              go_big_quiet_skip
              go_big_quiet_skip
              go_big_quiet_skip
              go_big_quiet_skip
              go_big_quiet_skip
              go_big_quiet_want
              refine ⟨.bool false, fun w0 hC => ?_, ?_⟩
              · clear hC
                go_simp
              simp only [Act.put, lq3, lq4, lq5]
              go_big_quiet_on
              refine wpQuiet_nil ?_
              intro wq hC
              have QN : Hid (∀ y, ys[q]? = some y → ¬ knownC y.n x.n < 0) := Lib.hid (fun y hy => by have := (List.getElem?_eq_some_iff.1 hy).1; have := LEN.out.1; omega)
              have BQ2 := Lib.hid (BQ.out.trans (hC.mono BQ.out.size))
              clear hC BQ HT0
              replace ST2 := Lib.hid (ST2.out.below BQ2.out)
              have BWQ := Lib.hid (BV.out.trans (BQ2.out.mono BV.out.size))
              have QL : Hid (q ≤ on) := Lib.hid (by omega)
              have HS5 : Hid (on ≤ 400) := Lib.hid (by have := LEN.out.2; omega)
              obtain ⟨ia, hi1, hi2⟩ := info_nt
              obtain ⟨a1, hcut1, hrd1⟩ := cutR_eq Tryz.underlying43 hi1 hi2 (RdA.of_own ST2.out.own) 0 q none (some (.int .i64 (q : Int))) (.inl ⟨rfl, rfl⟩) (.inr ⟨_, rfl⟩) (Nat.zero_le _) QL.out
              simp only [Nat.zero_mul, List.drop_zero, Nat.sub_zero, lnCells_take] at hcut1 hrd1
              have hbe : Below wq.heap.size wq (wq.alloc (.cells #[] 51)) := (Below.refl _ _).alloc (Nat.le_refl _) _
              have o0 := World.ownsRow_lit (base := wq.heap.size) (e := 51) (size := 19) wq #[] 0 (Nat.le_refl _) (by unfold maxLen; omega) rfl
              obtain ⟨a2, c2, w2, hrun, ho2, hg2⟩ := run_app_nt (wq.alloc (.cells #[] 51)) wq.heap.size _ 0 0 _ o0 a1 q oc _ (hrd1.below hbe) (lnCells_one _) (by have := HS5.out; have := QL.out; omega) hbe.size
              have hb2 : Below wq.heap.size wq w2 := hbe.grown hg2 hbe.size (fun k hk => (o0.lt k hk).1)
              rw [Nat.zero_add] at hrun ho2
              have O2 : Hid (w2.ownsRow wq.heap.size 51 19 (.slice a2 q c2) q (lnCells (ys.take q))) := Lib.hid (by simpa using ho2)
              have B4 := Lib.hid hb2
              clear hbe o0 ho2 hg2 hb2 hrd1
              go_upto_region 15 with (first
                | (refine wpList_append_eq rfl _ _ _ rfl _ _ _ rfl rfl hrun ?_)
                | fail)
              clear hrun hcut1
              try simp only [Act.put, lq3, lq4, lq5]
              have bn : Below w2.heap.size w2 (w2.alloc (.cells (noteA x.n x.sa x.sc) 51)) := (Below.refl _ _).alloc (Nat.le_refl _) _
              obtain ⟨a4, c4, w4, hrun, ho4, hg4⟩ := run_app_nt (w2.alloc (.cells (noteA x.n x.sa x.sc) 51)) wq.heap.size a2 q c2 _ (own_below O2.out bn) _ 1 1 _ (lit_note w2 x.n x.sa x.sc) (x.n.cells_one _ _) (by have := HS5.out; have := QL.out; omega) (Nat.le_trans B4.out.size bn.size)
              have O4 := Lib.hid ho4
              have B5 := Lib.hid (((B4.out.trans (bn.mono B4.out.size))).grown hg4 (Nat.le_trans B4.out.size bn.size) (fun k hk => ((own_below O2.out bn).lt k hk).1))
              clear bn ho4 hg4
              have HX2 := Lib.hid (HXA.out w2 (BWQ.out.trans (B4.out.mono BWQ.out.size)))
              have hix := HIX.out
              go_upto_region 16 with (first
                | (refine wpList_load_mid rfl 51 _ rfl b o2 rfl (x.n.cells x.sa x.sc) _ HX2.out Tryz.underlying51 rfl (size43 x.n x.sa x.sc) ?_)
                | (refine wpList_build_note rfl _ rfl x.n x.sa x.sc rfl ?_)
                | (refine wpList_append_eq rfl _ _ _ rfl _ _ _ rfl rfl hrun ?_)
                | fail)
              clear hrun hix HX2 O2
              try simp only [Act.put, lq3, lq4, lq5]
              obtain ⟨a6, hcut2, hrd2⟩ := cutR_eq Tryz.underlying43 hi1 hi2 ((RdA.of_own ST2.out.own).below B5.out) q on (some (.int .i64 (q : Int))) none (.inr ⟨_, rfl⟩) (.inl ⟨rfl, rfl⟩) QL.out (Nat.le_refl _)
              rw [lnCells_drop, List.take_of_length_le (by rw [lnCells_len, List.length_drop, LEN.out.1]; exact Nat.le_refl _)] at hrd2
              obtain ⟨a7, c7, w7, hrun, ho, hg⟩ := run_app_nt w4 wq.heap.size a4 (q + 1) c4 _ O4.out a6 (on - q) (oc - q) _ hrd2 (lnCells_one _) (by have := HS5.out; have := QL.out; omega) B5.out.size
              have B7 := Lib.hid (B5.out.grown hg B5.out.size (fun k hk => (O4.out.lt k hk).1))
              have SN : Hid (ChSt W3 w7 a7 (q + 1 + (on - q)) c7 (putL ys q x) l (h, m) (k + 1)) := Lib.hid ⟨ST2.out.bel.trans (B7.out.mono ST2.out.bel.size), by rw [← putL_cells]; exact own_mono ho ST2.out.bel.size, fun e he => by
                rcases mem_putL he with rfl | he
                · exact XOK.out w7 (BWQ.out.trans (B7.out.mono BWQ.out.size))
                · exact (ST2.out.ok e he).below B7.out, putL_ev ST2.out.ev HLX.out CB.out (by rw [LEN.out.1]; exact QL.out) HJ.out QN.out⟩
              clear ho hg hi1 hi2 hrd2 O4 B5
              go_upto_region 9 with (first
                | (refine wpList_append_eq rfl _ _ _ rfl _ _ _ rfl rfl hrun ?_)
                | fail)
              clear hrun hcut2
              have hk64 := HK64.out
              go_wp2_with fail
              go_roundw
              case rel => exact ⟨k + 1, a7, q + 1 + (on - q), c7, putL ys q x, by go_num, by go_num, by omega, SN⟩
              case measure => simp [intOf]; omega
      · go_big_quiet_want
        go_big_quiet_op
        go_big_quiet_on
        go_big_quiet_skip
        go_big_quiet_skip
        go_big_quiet_skip
        go_big_quiet_skip
        go_big_quiet_skip
        go_big_quiet_skip
        go_big_quiet_skip
        go_big_quiet_want
        refine ⟨.bool true, fun w0 hC => ?_, ?_⟩
        · clear hC
          go_simp
        simp only [Act.put, lq3, lq4, lq5]
        go_big_quiet_on
        refine wpQuiet_nil ?_
        intro w' hC
        have ST2 := Lib.hid (ST.out.below hC)
        have CB : Hid (chB (h, m) x.n = false) := Lib.hid (by unfold chB; rw [hdx]; rfl)
        clear hC
        have hk64 := HK64.out
        go_wp2_with fail
        go_roundw
        case rel => exact ⟨k + 1, oa, on, oc, ys, by go_num, by go_num, by omega, Lib.hid (ST2.out.skip HLX.out CB.out)⟩
        case measure => simp [intOf]; omega
    · have t0 : decide ((k : Int) < (nn : Int)) = false := by simp; omega
      obtain rfl : k = nn := by omega
      rw [← HLN.out] at ST
      have EV := Lib.hid (ST.out.ev.trans (chTo_all l (h, m)))
      have LEN : Hid (ys.length = on ∧ on ≤ 400) := Lib.hid (by have h1 := ST.out.len; rw [HLN.out] at h1; have := HN4.out; omega)
      have BV := Lib.hid (B3.out.trans (ST.out.bel.mono B3.out.size))
      have RY := Lib.hid (RdA.of_own ST.out.own)
      clear ST
      generalize wr = V at *
      go_wp2_with fail
      clear t0 hlt
      go_loopw [13, 14] (fun cv i wr => ∃ (q : Nat) (ca : Option Addr) (cc : Nat), cv = .slice ca q cc ∧ i = .int .i64 (q : Int) ∧ q ≤ on ∧ Hid (Below V.heap.size V wr) ∧ Hid (wr.ownsRow V.heap.size 29 2 (.slice ca q cc) q (nmCells ((ys.take q).map (fun y => nmOf y.n))))) (fun _ i _ => on - (intOf i).toNat)
      case atStart => exact ⟨0, none, 0, rfl, rfl, Nat.zero_le _, Lib.hid (Below.refl _ _), Lib.hid (World.ownsRow_nil _ _ _ _)⟩
      case round =>
        obtain ⟨q, ca, cc, rfl, rfl, hq, BQ, OQ⟩ := hrel
        by_cases hql : q < on
        · have t0 : decide ((q : Int) < (on : Int)) = true := by simp; omega
          obtain ⟨y2, Hy⟩ : ∃ y2, ys[q]? = some y2 := ⟨_, List.getElem?_eq_getElem (by rw [LEN.out.1]; exact hql)⟩
          have NXT : Hid ((ys.take (q + 1)).map (fun y => nmOf y.n) = (ys.take q).map (fun y => nmOf y.n) ++ [nmOf y2.n]) := Lib.hid (by rw [take_snoc Hy, List.map_append]; rfl)
          obtain ⟨be, eo, rfl, hat⟩ := ln_at (RY.out.below BQ.out) (by omega)
          obtain ⟨oz, hoz⟩ : ∃ o, Hid (eo + q * 19 = o) := ⟨_, Lib.hid rfl⟩
          have HZA := Lib.hid (hat q y2 Hy)
          rw [hoz.out] at HZA
          have hix := fun W => idx_off (W := W) (c := oc) (b := be) Tryz.underlying43 J19 hql hoz.out
          have HQ64 : Hid ((q : Int) + 1 ≤ 9223372036854775807) := Lib.hid (by have := LEN.out.2; omega)
          clear hat Hy
          go_wp2_with (refine wpList_load_mid rfl 51 _ rfl be oz rfl (y2.n.cells y2.sa y2.sc) _ HZA.out Tryz.underlying51 rfl (size43 y2.n y2.sa y2.sc) ?_)
          refine (rNameOf_any y2.n y2.sa y2.sc wr).mono ?_
          rintro e w3 ⟨rfl, b3⟩
          have bn := (Below.refl w3.heap.size w3).alloc (Nat.le_refl _) (.cells #[.int .i64 y2.n.house, .int .i64 y2.n.num] 29)
          have BQ3 := Lib.hid (BQ.out.trans (b3.mono BQ.out.size))
          have OQ3 := Lib.hid (own_below (own_below OQ.out b3) bn)
          obtain ⟨a', c', v9, hrun, ho, hg⟩ := run_app_nm (w3.alloc (.cells #[.int .i64 y2.n.house, .int .i64 y2.n.num] 29)) V.heap.size ca q cc _ OQ3.out _ 1 1 _ (lit_rd w3 _ _) (fun u hu => by simp only [List.mem_cons, List.not_mem_nil, or_false] at hu; rcases hu with rfl | rfl <;> rfl) (by have := LEN.out.2; omega) (Nat.le_trans BQ3.out.size bn.size)
          have B9 := Lib.hid ((BQ3.out.trans (bn.mono BQ3.out.size)).grown hg (Nat.le_trans BQ3.out.size bn.size) (fun k hk => (OQ3.out.lt k hk).1))
          have O9 : Hid (v9.ownsRow V.heap.size 29 2 (.slice a' (q + 1) c') (q + 1) (nmCells ((ys.take (q + 1)).map (fun y => nmOf y.n)))) := Lib.hid (by rw [NXT.out, nmCells_snoc]; exact ho)
          clear b3 bn ho hg HZA t0
          have hq64 := HQ64.out
          go_wp2_with (first
            | (refine wpList_append_eq rfl _ _ _ rfl _ _ _ rfl rfl hrun ?_)
            | fail)
          go_roundw
          case rel => exact ⟨q + 1, a', c', by go_num, by go_num, by omega, B9, O9⟩
          case measure => simp [intOf]; omega
        · have t0 : decide ((q : Int) < (on : Int)) = false := by simp; omega
          rw [List.take_of_length_le (by rw [LEN.out.1]; omega)] at OQ
          have NM : Hid (ys.map (fun y => nmOf y.n) = (chainS l (h, m)).map nmOf) := Lib.hid (by rw [← EV.out, List.map_map]; rfl)
          rw [NM.out] at OQ
          go_wp2_with fail
          go_returns
          exact ⟨⟨ca, q, cc, by rw [CE.out] <;> rfl, by rw [CE.out]; exact RdA.of_own OQ.out⟩, BV.out.trans (BQ.out.mono BV.out.size)⟩
end Go.Proofs.YtpjiakgfegnmcaaGreat
namespace Go.Proofs.YtpjiakgfegnmcaaGreat
set_option linter.unusedSimpArgs false
set_option linter.unusedVariables false
open Go.RowKit

def chN (f : Nm → Option LN) (a k : Nm) : Option LN := (f k).filter (fun x => chB a x.n)
theorem chN_list (f : Nm → Option LN) (a : Nm) : ∀ ks : List Nm, ks.filterMap (chN f a) = (ks.filterMap f).filter (fun x => chB a x.n)
  | [] => rfl
  | k :: ks => by
    cases h : f k with
    | none => rw [List.filterMap_cons_none (by simp [chN, h]), List.filterMap_cons_none h, chN_list f a ks]
    | some x =>
      by_cases hc : chB a x.n = true
      · rw [List.filterMap_cons_some (b := x) (by simp [chN, h, Option.filter, hc]), List.filterMap_cons_some h, List.filter_cons_of_pos (by exact hc), chN_list f a ks]
      · rw [List.filterMap_cons_none (by simp [chN, h, Option.filter, hc]), List.filterMap_cons_some h, List.filter_cons_of_neg (by exact hc), chN_list f a ks]
def knownL (x y : LN) : Bool := decide (knownC x.n y.n < 0)
theorem ord_known : Ord knownL := by
  refine ⟨fun x y h => ?_, fun x y z h1 h2 => ?_⟩
  · simp only [knownL, decide_eq_true_eq, decide_eq_false_iff_not, knownC_neg] at *
    omega
  · simp only [knownL, decide_eq_false_iff_not, knownC_neg] at *
    omega
theorem known_fn (args : Array Value) (w : World) : (callFunc 78 args).run Tryz.prog w = .ok (.enter 78 args) w := by kernel_rfl
theorem known_cmp (x y : LN) (w : World) : Calls Tryz.prog 78 #[.agg (lnRow x).toArray, .agg (lnRow y).toArray] w fun e w' => e = .returned (.int .i64 (knownC x.n y.n)) ∧ Gro w.heap.size w w' :=
  known_gro x.n y.n x.sa x.sc y.sa y.sc w
theorem chain_names {xs zs : List LN} {ks : List Nm} {a : Nm} (hd : ((xs.map LN.n).map nmOf).Nodup) (hk : ks.Nodup) (ha : AllIn (setF xs) ks) (hp : zs.Perm (ks.filterMap (chN (setF xs) a))) (hs : zs.Pairwise (fun x y => knownL y x = false)) : zs.map LN.n = chainS (xs.map LN.n) a := by
  refine chain_eq hd ?_ ?_
  · rw [chN_list] at hp
    refine ((hp.trans ((keys_perm hd hk ha).filter _)).map LN.n).trans ?_
    rw [List.filter_map]
    exact List.Perm.refl _
  · rw [List.pairwise_map]
    exact hs.imp (by simp [knownL])
theorem has_none {xs : List LN} (hd : ((xs.map LN.n).map nmOf).Nodup) {a : Nm} (h : setF xs a = none) : hasB (xs.map LN.n) a = false := by
  refine has_no fun y hy e => ?_
  obtain ⟨x, hx, rfl⟩ := List.mem_map.1 hy
  have h1 := setF_mem hd hx
  rw [show x.nm = a from e, h] at h1
  cases h1
theorem has_some {xs : List LN} (hd : ((xs.map LN.n).map nmOf).Nodup) {a : Nm} {x : LN} (h : setF xs a = some x) : hasB (xs.map LN.n) a = doneB x.n := by
  obtain ⟨h1, h2⟩ := setF_some h
  subst h2
  exact has_at hd (List.mem_map_of_mem h1)
structure ChAt (w wr : World) (bS r n : Nat) (f : Nm → Option LN) (nm : Nm) (kr ks : List Nm) (cnt : Nat) (a : Option Addr) (c zn : Nat) (es : List LN) : Prop where
  rng : RangeF LN.val wr bS r n f kr cnt
  bel : Below w.heap.size w wr
  own : wr.ownsRow w.heap.size 51 19 (.slice a zn c) zn (lnCells es)
  evs : es = ks.filterMap (chN f nm)
  len : es.length = zn
  r_ge : w.heap.size ≤ r
section
variable {w wr W' : World} {bS r n : Nat} {f : Nm → Option LN} {nm : Nm} {kr ks : List Nm} {cnt : Nat} {a : Option Addr} {c zn : Nat} {es : List LN}
theorem ChAt.below (h : ChAt w wr bS r n f nm kr ks cnt a c zn es) (hb : Below wr.heap.size wr W') : ChAt w W' bS r n f nm kr ks cnt a c zn es :=
  ⟨h.rng.below hb, h.bel.trans (hb.mono h.bel.size), own_below h.own hb, h.evs, h.len, h.r_ge⟩
theorem ChAt.came (h : ChAt w wr bS r n f nm kr ks cnt a c zn es) {kh km : Int} {y : LN} {cnt' : Nat} (hN : NextF LN.val wr bS r n cnt f kr kh km y W' cnt') : ChAt w W' bS r n f nm (kr ++ [(kh, km)]) ks cnt' a c zn es := by
  obtain ⟨bb, since, seen, c0, hr⟩ := h.rng.blk
  exact ⟨hN.range, h.bel.grown hN.grown h.bel.size (fun q hq => by cases hq; exact h.r_ge), h.own.kept hN.grown (.inr (own_no h.own hr (by simp)).symm), h.evs, h.len, h.r_ge⟩
theorem ChAt.skip {k : Nm} {x : LN} (h : ChAt w wr bS r n f nm (ks ++ [k]) ks cnt a c zn es) (hk : f k = some x) (hc : chB nm x.n = false) : ChAt w wr bS r n f nm (ks ++ [k]) (ks ++ [k]) cnt a c zn es :=
  ⟨h.rng, h.bel, h.own, by rw [List.filterMap_append, ← h.evs]; simp [chN, hk, Option.filter, hc], h.len, h.r_ge⟩
theorem ChAt.app {k : Nm} {x : LN} {a' : Option Addr} {c' : Nat} (h : ChAt w wr bS r n f nm (ks ++ [k]) ks cnt a c zn es) (hk : f k = some x) (hc : chB nm x.n = true)
    (ho : W'.ownsRow w.heap.size 51 19 (.slice a' (zn + 1) c') (zn + 1) (lnCells es ++ x.n.cells x.sa x.sc)) (hg : wr.grownBy W' (Value.ownBlock (.slice a zn c))) :
    ChAt w W' bS r n f nm (ks ++ [k]) (ks ++ [k]) cnt a' c' (zn + 1) (es ++ [x]) := by
  obtain ⟨es2, clock2, hsb⟩ := h.rng.map.blk
  obtain ⟨bb, since, seen, c0, hr⟩ := h.rng.blk
  have hr2 := grown_blk hg hr (own_no h.own hr (by simp))
  have hs2 := grown_blk hg hsb (own_no h.own hsb (by simp))
  exact ⟨h.rng.of_blocks (hs2.trans hsb.symm) (hr2.trans hr.symm), h.bel.grown hg h.bel.size (fun q hq => (h.own.lt q hq).1), by rw [lnCells_snoc]; exact ho, by rw [List.filterMap_append, ← h.evs]; simp [chN, hk, Option.filter, hc], by rw [List.length_append, h.len]; rfl, h.r_ge⟩
theorem ChAt.zlen (h : ChAt w wr bS r n f nm kr ks cnt a c zn es) (hl : ks.length ≤ n) : zn ≤ n := by
  rw [← h.len, h.evs]
  exact Nat.le_trans (List.length_filterMap_le _ _) hl
end
end Go.Proofs.YtpjiakgfegnmcaaGreat
namespace Go.Proofs.YtpjiakgfegnmcaaGreat
set_option linter.unusedSimpArgs false
open Go.RowKit

set_option maxHeartbeats 16000000 in
set_option maxRecDepth 100000 in
theorem chain_any (f : FrV) (a : Option Addr) (nn nc : Nat) (l : List NoteV) (h m : Int) (w : World) (hr : RdNs w a nn nc l) (hok : ∀ x ∈ l, x.Ok) (hnm : nmOk (h, m)) :
    Calls Tryz.prog 34 #[f.val, .slice a nn nc, .agg #[.int .i64 h, .int .i64 m]] w fun e w' => ChainRet f l (h, m) e w' ∧ Below w.heap.size w w' := by
  have I43 := Lib.hid (show ∀ (m : NoteV) (a : Option Addr) (c : Nat), (Tryz.prog.info? 51).map (·.size) = some (noteA m a c).size from fun m a c => by kernel_rfl)
  have J19 : (Tryz.prog.info? 51).map (·.size) = some 19 := by kernel_rfl
  have HR := Lib.hid hr; clear hr
  have HOK := Lib.hid hok; clear hok
  have HNM := Lib.hid hnm; clear hnm
  have B0 := Lib.hid (((Below.refl w.heap.size w).alloc (Nat.le_refl _) (.cells #[.int .i64 f.rings, .int .i64 f.sectors, .int .i64 f.wide] 23)).alloc (by simp) (.cells #[.int .i64 h, .int .i64 m] 29))
  have F0 := Lib.hid (heap_before _ (.cells #[.int .i64 h, .int .i64 m] 29) _ _ (heap_last w (.cells #[.int .i64 f.rings, .int .i64 f.sectors, .int .i64 f.wide] 23)))
  have P0 := Lib.hid (heap_at (w.alloc (.cells #[.int .i64 f.rings, .int .i64 f.sectors, .int .i64 f.wide] 23)) (.cells #[.int .i64 h, .int .i64 m] 29) (w.heap.size + 1) (by simp))
  unfold FrV.val
  go_enter Tryz.func34, Tryz.ntmps34
  go_upto_region 1 with fail
  obtain ⟨pF, hpF⟩ : ∃ p, Hid (w.heap.size = p) := ⟨_, Lib.hid rfl⟩
  obtain ⟨p5, hp5⟩ : ∃ p, Hid (w.heap.size + 1 = p) := ⟨_, Lib.hid rfl⟩
  rw [hpF.out] at F0
  rw [hp5.out] at P0
  rw [hp5.out, hpF.out]
  generalize (w.alloc (.cells #[.int .i64 f.rings, .int .i64 f.sectors, .int .i64 f.wide] 23)).alloc (.cells #[.int .i64 h, .int .i64 m] 29) = W0 at *
  have c0 := cell_of F0.out 0 (.int .i64 f.rings) rfl
  have c1 := cell_of F0.out 1 (.int .i64 f.sectors) rfl
  have c2 := cell_of F0.out 2 (.int .i64 f.wide) rfl
  go_wp2_with fail
  refine (setOf_any f a nn nc l W0 (HR.out.below B0.out) HOK.out).mono ?_
  clear c0 c1 c2
  rintro e w1 ⟨h1 | h1, hb1⟩
  · obtain ⟨hbad, rfl⟩ := h1
    have HBAD := Lib.hid hbad; clear hbad
    have B1 := Lib.hid (B0.out.trans (hb1.mono B0.out.size))
    clear hb1
    go_wp2_with fail
    go_returns
    have e : chainV f l (h, m) = ([], 1) := by unfold chainV; rw [if_neg HBAD.out]
    exact ⟨⟨none, 0, 0, by rw [e] <;> rfl, by rw [e]; exact RdA.nil _ _⟩, B1.out⟩
  obtain ⟨hset, xs, b, rfl, h2, h3, h4, h5⟩ := h1
  have HSET := Lib.hid hset; clear hset
  have HXS := Lib.hid h2
  have HM := Lib.hid h4
  have B1 := Lib.hid (B0.out.trans (hb1.mono B0.out.size))
  have P1 := Lib.hid (below_blk hb1 P0.out)
  clear h2 h3 h4 h5 hb1 B0 F0 P0
  have HLN : Hid (l.length ≤ 400) := Lib.hid (set_ok HSET.out).2.1
  have HSL : Hid (∀ x ∈ xs, x.n ∈ l) := Lib.hid (fun x hx => by rw [← HXS.out]; exact List.mem_map_of_mem hx)
  have FO : Hid (FOk (setF xs)) := Lib.hid (fun k x h => ⟨HOK.out x.n (HSL.out x (setF_some h).1), (setF_some h).2⟩)
  have ND : Hid (((xs.map LN.n).map nmOf).Nodup) := Lib.hid (by rw [HXS.out]; exact set_nodup (set_ok HSET.out).2.2.2)
  have q0 := cell_of P1.out 0 (.int .i64 h) rfl
  have q1 := cell_of P1.out 1 (.int .i64 m) rfl
  cases hfr : setF xs (h, m) with
  | none =>
    have hget : (Instr.lookup 89 (.map (some b)) (.agg #[.int .i64 h, .int .i64 m]) true).run Tryz.prog w1 = .ok (.tuple #[.agg (noteA zeroN none 0), .bool false]) w1 := by
      have := run_get_nm (t := 89) HM.out Tryz.underlying89 (zero_note w1) h m HNM.out
      rw [hfr] at this; exact this
    have CE : Hid (chainV f l (h, m) = ([], 3)) := Lib.hid (by unfold chainV; rw [if_pos HSET.out, if_neg (by rw [← HXS.out, has_none ND.out hfr]; decide)])
    clear hfr
    go_upto_region 5 with (first
      | (refine wpList_store_newp w1 rfl 51 _ _ rfl w1.heap.size rfl _ (noteA zeroN none 0) rfl rfl (I43.out _ _ _) rfl (noteA_one zeroN none 0) ?_))
    have B2 := Lib.hid (B1.out.alloc B1.out.size (.cells (noteA zeroN none 0) 51))
    generalize w1.alloc (.cells (noteA zeroN none 0) 51) = wz at *
    clear hget q0 q1
    go_wp2_with fail
    go_returns
    exact ⟨⟨none, 0, 0, by rw [CE.out] <;> rfl, by rw [CE.out]; exact RdA.nil _ _⟩, B2.out⟩
  | some y =>
    have hget : (Instr.lookup 89 (.map (some b)) (.agg #[.int .i64 h, .int .i64 m]) true).run Tryz.prog w1 = .ok (.tuple #[.agg (noteA y.n y.sa y.sc), .bool true]) w1 := by
      have := run_get_nm (t := 89) HM.out Tryz.underlying89 (zero_note w1) h m HNM.out
      rw [hfr] at this; exact this
    have HB := Lib.hid (show hasB l (h, m) = doneB y.n by rw [← HXS.out]; exact has_some ND.out hfr)
    clear hfr
    go_upto_region 5 with (first
      | (refine wpList_store_newp w1 rfl 51 _ _ rfl w1.heap.size rfl _ (noteA y.n y.sa y.sc) rfl rfl (I43.out _ _ _) rfl (noteA_one y.n y.sa y.sc) ?_))
    have hbt : Below w1.heap.size w1 (w1.alloc (.cells (noteA y.n y.sa y.sc) 51)) := (Below.refl _ _).alloc (Nat.le_refl _) _
    have B2 := Lib.hid (B1.out.trans (hbt.mono B1.out.size))
    have CT := Lib.hid (heap_last w1 (.cells (noteA y.n y.sa y.sc) 51))
    have HM2 := Lib.hid (HM.out.below hbt)
    have P2 := Lib.hid (below_blk hbt P1.out)
    obtain ⟨p6, hp6⟩ : ∃ p6, Hid (w1.heap.size = p6) := ⟨_, Lib.hid rfl⟩
    rw [hp6.out] at CT ⊢
    generalize w1.alloc (.cells (noteA y.n y.sa y.sc) 51) = wt at *
    clear hbt hget q0 q1 B1 HM P1
    go_wp2_with (first
      | (refine wpList_load_rowG ?hw 51 _ rfl p6 rfl 51 (noteA y.n y.sa y.sc) (0, 0) _ CT.out Tryz.underlying51 rfl (I43.out _ _ _) ?_; case hw => kernel_rfl))
    refine (done_any y.n y.sa y.sc _).mono ?_
    rintro e w3 ⟨rfl, b3⟩
    have B3 := Lib.hid (B2.out.trans (b3.mono B2.out.size))
    have P3 := Lib.hid (below_blk b3 P2.out)
    have HM3 := Lib.hid (HM2.out.below b3)
    clear b3 B2 P2 HM2 CT
    cases hd : doneB y.n
    · have CE : Hid (chainV f l (h, m) = ([], 3)) := Lib.hid (by unfold chainV; rw [if_pos HSET.out, if_neg (by rw [HB.out, hd]; decide)])
      clear hd
      go_wp2_with fail
      go_returns
      exact ⟨⟨none, 0, 0, by rw [CE.out] <;> rfl, by rw [CE.out]; exact RdA.nil _ _⟩, B3.out⟩
    have CE : Hid (chainV f l (h, m) = ((chainS l (h, m)).map nmOf, 0)) := Lib.hid (by unfold chainV; rw [if_pos HSET.out, if_pos (by rw [HB.out, hd])])
    clear hd HB
    go_wp2_with (first
      | (at_range; refine wpList_range_nm _ rfl _ 89 51 rfl Tryz.underlying89 b l.length rfl HM3.out ?_; intro w4 cnt0 hrg0 hg0 hs0)
      | fail)
    go_frame
    obtain ⟨r, hr⟩ : ∃ r, Hid (w3.heap.size = r) := ⟨_, Lib.hid rfl⟩
    have S0 := Lib.hid (show ChAt w3 w4 b r l.length (setF xs) (h, m) [] [] cnt0 none 0 0 [] from
      ⟨by rw [← hr.out]; exact hrg0, (Below.refl _ _).grown hg0 (Nat.le_refl _) (fun q hq => by cases hq), World.ownsRow_nil _ _ _ _, rfl, rfl, by rw [← hr.out]; exact Nat.le_refl _⟩)
    rw [hr.out]
    clear hrg0 hg0 hs0 HM3
    go_loopw [12] (fun cv wr => ∃ (ks : List Nm) (cnt : Nat) (za : Option Addr) (zc zn : Nat) (es : List LN), cv = .slice za zn zc ∧ Hid (ChAt w3 wr b r l.length (setF xs) (h, m) ks ks cnt za zc zn es)) (fun _ wr => wr.rangeLeft b r)
    case atStart => exact ⟨_, _, _, _, _, _, rfl, S0⟩
    case round =>
      clear S0
      obtain ⟨ks, cnt, za, zc, zn, es, rfl, HS⟩ := hrel
      have HZN : Hid (zn ≤ 400) := Lib.hid (Nat.le_trans (HS.out.zlen (by have := HS.out.rng.count; omega)) HLN.out)
      go_upto_region 10 with (first
        | (at_next; refine wpList_next_nm wr rfl _ rfl b r l.length cnt ks rfl HS.out.rng ?_ ?_)
        | fail)
      · intro hall
        have HALL := Lib.hid hall; clear hall
        go_wp2_with fail
        refine (sortNote_all (V := LN) ord_known lnRow lnRow_len lnRow_one (fun x y => knownC x.n y.n) (fun _ _ => rfl) 78 known_fn known_cmp w3.heap.size zn zc za es wr HS.out.own HS.out.len (by have := HZN.out; omega)).mono ?_
        rintro e w9 ⟨rfl, zs, ho, hp, hs, hsame⟩
        have HO := Lib.hid (RdA.of_own ho)
        have NM : Hid (zs.map (fun y => nmOf y.n) = (chainS l (h, m)).map nmOf) := Lib.hid (by
          rw [← HXS.out, ← chain_names ND.out HS.out.rng.nodup HALL.out (hp.trans (by rw [HS.out.evs])) hs, List.map_map]
          rfl)
        have HZL := Lib.hid (show zs.length = zn by rw [hp.length_eq]; exact HS.out.len)
        have B9 := Lib.hid (B3.out.trans ((hsame.below HS.out.bel HS.out.bel.size (fun k hk => (HS.out.own.lt k hk).1)).mono B3.out.size))
        clear ho hp hs hsame HS HALL
        have hzn := HZN.out
        go_wp2_with fail
        go_loopw [15, 62] (fun cv i wr => ∃ (q : Nat) (ca : Option Addr) (cc : Nat), cv = .slice ca q cc ∧ i = .int .i64 (q : Int) ∧ q ≤ zn ∧ Hid (Below w9.heap.size w9 wr) ∧ Hid (wr.ownsRow w9.heap.size 29 2 (.slice ca q cc) q (nmCells ((zs.take q).map (fun y => nmOf y.n))))) (fun _ i _ => zn - (intOf i).toNat)
        case atStart => exact ⟨0, none, 0, rfl, rfl, Nat.zero_le _, Lib.hid (Below.refl _ _), Lib.hid (World.ownsRow_nil _ _ _ _)⟩
        case round =>
          obtain ⟨q, ca, cc, rfl, rfl, hq, BQ, OQ⟩ := hrel
          by_cases hql : q < zn
          · have t0 : decide ((q : Int) < (zn : Int)) = true := by simp; omega
            obtain ⟨y2, Hy⟩ : ∃ y2, zs[q]? = some y2 := ⟨_, List.getElem?_eq_getElem (by rw [HZL.out]; exact hql)⟩
            have NXT : Hid ((zs.take (q + 1)).map (fun y => nmOf y.n) = (zs.take q).map (fun y => nmOf y.n) ++ [nmOf y2.n]) := Lib.hid (by rw [take_snoc Hy, List.map_append]; rfl)
            obtain ⟨be, eo, rfl, hat⟩ := ln_at (HO.out.below BQ.out) (by omega)
            obtain ⟨oz, hoz⟩ : ∃ o, Hid (eo + q * 19 = o) := ⟨_, Lib.hid rfl⟩
            have HZA := Lib.hid (hat q y2 Hy)
            rw [hoz.out] at HZA
            have hix := fun W => idx_off (W := W) (c := zc) (b := be) Tryz.underlying43 J19 hql hoz.out
            have HQ64 : Hid ((q : Int) + 1 ≤ 9223372036854775807) := Lib.hid (by omega)
            clear hat Hy
            go_upto_region 18 with (first
              | (refine wpList_load_mid rfl 51 _ rfl be oz rfl (y2.n.cells y2.sa y2.sc) _ HZA.out Tryz.underlying51 rfl (size43 y2.n y2.sa y2.sc) ?_)
              | (refine wpList_store_newp wr rfl 51 _ _ rfl wr.heap.size rfl _ (noteA y2.n y2.sa y2.sc) rfl rfl (I43.out _ _ _) rfl (noteA_one y2.n y2.sa y2.sc) ?_))
            have hbt : Below wr.heap.size wr (wr.alloc (.cells (noteA y2.n y2.sa y2.sc) 51)) := (Below.refl _ _).alloc (Nat.le_refl _) _
            have CT := Lib.hid (heap_last wr (.cells (noteA y2.n y2.sa y2.sc) 51))
            have BQ2 := Lib.hid (BQ.out.trans (hbt.mono BQ.out.size))
            have OQ2 := Lib.hid (own_below OQ.out hbt)
            obtain ⟨p7, hp7⟩ : ∃ p7, Hid (wr.heap.size = p7) := ⟨_, Lib.hid rfl⟩
            rw [hp7.out] at CT ⊢
            generalize wr.alloc (.cells (noteA y2.n y2.sa y2.sc) 51) = wv at *
            clear hbt HZA BQ OQ
            go_wp2_with (first
              | (refine wpList_load_row rfl 51 _ rfl p7 rfl 51 (noteA y2.n y2.sa y2.sc) (0, 0) _ CT.out Tryz.underlying51 rfl (I43.out _ _ _) ?_))
            refine (nameOf_any y2.n y2.sa y2.sc wv).mono ?_
            rintro e w8 ⟨rfl, b3⟩
            have bn := (Below.refl w8.heap.size w8).alloc (Nat.le_refl _) (.cells #[.int .i64 y2.n.house, .int .i64 y2.n.num] 29)
            have BQ3 := Lib.hid (BQ2.out.trans (b3.mono BQ2.out.size))
            have OQ3 := Lib.hid (own_below (own_below OQ2.out b3) bn)
            obtain ⟨a', c', v9, hrun, ho, hg⟩ := run_app_nm (w8.alloc (.cells #[.int .i64 y2.n.house, .int .i64 y2.n.num] 29)) w9.heap.size ca q cc _ OQ3.out _ 1 1 _ (lit_rd w8 _ _) (fun u hu => by simp only [List.mem_cons, List.not_mem_nil, or_false] at hu; rcases hu with rfl | rfl <;> rfl) (by have := HZN.out; omega) (Nat.le_trans BQ3.out.size bn.size)
            have B9' := Lib.hid ((BQ3.out.trans (bn.mono BQ3.out.size)).grown hg (Nat.le_trans BQ3.out.size bn.size) (fun k hk => (OQ3.out.lt k hk).1))
            have O9 : Hid (v9.ownsRow w9.heap.size 29 2 (.slice a' (q + 1) c') (q + 1) (nmCells ((zs.take (q + 1)).map (fun y => nmOf y.n)))) := Lib.hid (by rw [NXT.out, nmCells_snoc]; exact ho)
            clear b3 bn ho hg t0 BQ2 OQ2 CT
            have hq64 := HQ64.out
            go_wp2_with (first
              | (refine wpList_append_eq rfl _ _ _ rfl _ _ _ rfl rfl hrun ?_)
              | fail)
            go_roundw
            case rel => exact ⟨q + 1, a', c', by go_num, by go_num, by omega, B9', O9⟩
            case measure => simp [intOf]; omega
          · have t0 : decide ((q : Int) < (zn : Int)) = false := by simp; omega
            rw [List.take_of_length_le (by rw [HZL.out]; omega)] at OQ
            rw [NM.out] at OQ
            go_wp2_with fail
            go_returns
            exact ⟨⟨ca, q, cc, by rw [CE.out] <;> rfl, by rw [CE.out]; exact RdA.of_own OQ.out⟩, B9.out.trans (BQ.out.mono B9.out.size)⟩
      · intro kh km y2 w5 cnt1 HN hen
        have HF := Lib.hid HN.out.at_
        have S1 := Lib.hid (HS.out.came HN.out)
        have HME := Lib.hid (show wr.rangeLeft b r = cnt from HS.out.rng.left_eq)
        have HLT := Lib.hid HN.out.lt
        clear HS HN
        unfold LN.val at hen
        go_upto_region 11 with (first
          | (refine wpList_store_newp w5 rfl 51 _ _ rfl w5.heap.size rfl _ (noteA y2.n y2.sa y2.sc) rfl rfl (I43.out _ _ _) rfl (noteA_one y2.n y2.sa y2.sc) ?_))
        clear hen
        have hbt : Below w5.heap.size w5 (w5.alloc (.cells (noteA y2.n y2.sa y2.sc) 51)) := (Below.refl _ _).alloc (Nat.le_refl _) _
        have CS := Lib.hid (S1.out.below hbt)
        have CT := Lib.hid (heap_last w5 (.cells (noteA y2.n y2.sa y2.sc) 51))
        obtain ⟨p7, hp7⟩ : ∃ p7, Hid (w5.heap.size = p7) := ⟨_, Lib.hid rfl⟩
        rw [hp7.out] at CT ⊢
        generalize w5.alloc (.cells (noteA y2.n y2.sa y2.sc) 51) = wt2 at *
        clear hbt S1
        go_wp2_with (first
          | (refine wpList_load_row rfl 51 _ rfl p7 rfl 51 (noteA y2.n y2.sa y2.sc) (0, 0) _ CT.out Tryz.underlying51 rfl (I43.out _ _ _) ?_))
        refine (done_any y2.n y2.sa y2.sc _).mono ?_
        rintro e w6 ⟨rfl, b2⟩
        replace CS := Lib.hid (CS.out.below b2)
        replace CT := Lib.hid (below_blk b2 CT.out)
        clear b2
        have P7 := Lib.hid (below_blk CS.out.bel P3.out)
        cases hd2 : doneB y2.n
        · have HD2 := Lib.hid hd2
          clear hd2
          have c16 := cell_of CT.out 16 (.int .i64 y2.n.refH) rfl
          have c17 := cell_of CT.out 17 (.int .i64 y2.n.refN) rfl
          have q0 := cell_of P7.out 0 (.int .i64 h) rfl
          have q1 := cell_of P7.out 1 (.int .i64 m) rfl
          by_cases e1 : y2.n.refH = h
          · by_cases e2 : y2.n.refN = m
            · have HC : Hid (chB (h, m) y2.n = true) := Lib.hid (by rw [chB_eq _ _ HD2.out]; simp [e1, e2])
              have bn : Below w6.heap.size w6 (w6.alloc (.cells (noteA y2.n y2.sa y2.sc) 51)) := (Below.refl _ _).alloc (Nat.le_refl _) _
              have CS2 := Lib.hid (CS.out.below bn)
              obtain ⟨a', c', v9, hrun, ho9, hg9⟩ := run_app_nt (w6.alloc (.cells (noteA y2.n y2.sa y2.sc) 51)) w3.heap.size za zn zc _ CS2.out.own _ 1 1 _ (lit_note w6 y2.n y2.sa y2.sc) (y2.n.cells_one _ _) (by have := HZN.out; omega) CS2.out.bel.size
              have S9 := Lib.hid (CS2.out.app HF.out HC.out ho9 hg9)
              clear bn ho9 hg9 CS2
              go_wp2_with (first
                | (refine wpList_load_row rfl 51 _ rfl p7 rfl 51 (noteA y2.n y2.sa y2.sc) (0, 0) _ CT.out Tryz.underlying51 rfl (I43.out _ _ _) ?_)
                | (refine wpList_build_note rfl _ rfl y2.n y2.sa y2.sc rfl ?_)
                | (refine wpList_append_eq rfl _ _ _ rfl _ _ _ rfl rfl hrun ?_)
                | fail)
              go_roundw
              case rel => exact ⟨_, _, _, _, _, _, rfl, S9⟩
              case measure => rw [S9.out.rng.left_eq, HME.out]; exact HLT.out
            · have HC : Hid (chB (h, m) y2.n = false) := Lib.hid (by rw [chB_eq _ _ HD2.out]; simp [e1, e2])
              have S9 := Lib.hid (CS.out.skip HF.out HC.out)
              go_wp2_with fail
              go_roundw
              case rel => exact ⟨_, _, _, _, _, _, rfl, S9⟩
              case measure => rw [S9.out.rng.left_eq, HME.out]; exact HLT.out
          · have HC : Hid (chB (h, m) y2.n = false) := Lib.hid (by rw [chB_eq _ _ HD2.out]; simp [e1])
            have S9 := Lib.hid (CS.out.skip HF.out HC.out)
            go_wp2_with fail
            go_roundw
            case rel => exact ⟨_, _, _, _, _, _, rfl, S9⟩
            case measure => rw [S9.out.rng.left_eq, HME.out]; exact HLT.out
        · have HC : Hid (chB (h, m) y2.n = false) := Lib.hid (by unfold chB; rw [hd2]; rfl)
          clear hd2
          have S9 := Lib.hid (CS.out.skip HF.out HC.out)
          go_wp2_with fail
          go_roundw
          case rel => exact ⟨_, _, _, _, _, _, rfl, S9⟩
          case measure => rw [S9.out.rng.left_eq, HME.out]; exact HLT.out
end Go.Proofs.YtpjiakgfegnmcaaGreat
namespace Go.Proofs.YtpjiakgfegnmcaaGreat
set_option linter.unusedSimpArgs false
open Go.RowKit

def RegRet (f : FrV) (l m : List NoteV) (day : Int) (e : Ending) (W : World) : Prop := ∃ v, e = .returned (.tuple #[v, .int .i64 (errV f l)]) ∧ RegOut W v (regV f l m day)

set_option maxHeartbeats 8000000 in
set_option maxRecDepth 100000 in
theorem rfold_any (f : FrV) (a : Option Addr) (n c : Nat) (l : List NoteV) (w : World) (hr : RdNs w a n c l) :
    Calls Tryz.prog 32 #[f.val, .slice a n c] w fun e w' => RegRet f l l 99999 e w' ∧ Below w.heap.size w w' := by
  have I3 := Lib.hid (show ∀ (x y z : Value), (Tryz.prog.info? 27).map (·.size) = some (#[x, y, z] : Array Value).size from fun x y z => by kernel_rfl)
  have J19 : (Tryz.prog.info? 51).map (·.size) = some 19 := by kernel_rfl
  have IS := Lib.hid (fun W hb => risSet_any f a n c l W (hr.below (show Below w.heap.size w W from hb)))
  have RN := Lib.hid hr
  have hvl : f.val = .agg #[.int .i64 f.rings, .int .i64 f.sectors, .int .i64 f.wide] := rfl
  rw [hvl] at IS ⊢
  clear hvl hr
  have B0 := Lib.hid (((Below.refl w.heap.size w).alloc (Nat.le_refl _) (.cells #[.int .i64 f.rings, .int .i64 f.sectors, .int .i64 f.wide] 23)).alloc (by simp) (.cells #[.slice none 0 0, .slice none 0 0, .slice none 0 0] 27))
  have F0 := Lib.hid (heap_before _ (.cells #[.slice none 0 0, .slice none 0 0, .slice none 0 0] 27) _ _ (heap_last w (.cells #[.int .i64 f.rings, .int .i64 f.sectors, .int .i64 f.wide] 23)))
  have P0 := Lib.hid (heap_at (w.alloc (.cells #[.int .i64 f.rings, .int .i64 f.sectors, .int .i64 f.wide] 23)) (.cells #[.slice none 0 0, .slice none 0 0, .slice none 0 0] 27) (w.heap.size + 1) (by simp))
  go_enter Tryz.func32, Tryz.ntmps32
  go_upto_region 1 with fail
  obtain ⟨pF, hpF⟩ : ∃ p, Hid (w.heap.size = p) := ⟨_, Lib.hid rfl⟩
  obtain ⟨p4, hp4⟩ : ∃ p, Hid (w.heap.size + 1 = p) := ⟨_, Lib.hid rfl⟩
  rw [hpF.out] at F0
  rw [hp4.out] at P0
  rw [hp4.out, hpF.out]
  generalize (w.alloc (.cells #[.int .i64 f.rings, .int .i64 f.sectors, .int .i64 f.wide] 23)).alloc (.cells #[.slice none 0 0, .slice none 0 0, .slice none 0 0] 27) = W0 at *
  have c0 := cell_of F0.out 0 (.int .i64 f.rings) rfl
  have c1 := cell_of F0.out 1 (.int .i64 f.sectors) rfl
  have c2 := cell_of F0.out 2 (.int .i64 f.wide) rfl
  go_wp2_with fail
  refine (IS.out W0 B0.out).mono ?_
  clear c0 c1 c2
  rintro e W1 ⟨rfl, b1⟩
  have B1 := Lib.hid (B0.out.trans (b1.mono B0.out.size))
  have P1 := Lib.hid (below_blk b1 P0.out)
  have SZ : Hid (w.heap.size ≤ p4) := Lib.hid (by have := hp4.out; omega)
  clear b1 B0 F0 P0
  by_cases hs : (checkSetP f l).1 = 0
  case neg =>
    have t0 : ((checkSetP f l).1 == 0) = false := by simp [hs]
    rw [t0]
    have HS := Lib.hid hs
    clear hs t0
    go_wp2_with (first
      | (refine wpList_store_blkP rfl 27 _ _ rfl p4 #[.slice none 0 0, .slice none 0 0, .slice none 0 0] #[.slice none 0 0, .slice none 0 0, .slice none 0 0] 27 rfl rfl P1.out (I3.out _ _ _) rfl (by simp [Value.oneCell']) ?_; intro w5 hr1 hr2 hr3)
      | fail)
    have HR1 := Lib.hid hr1
    have HR2 := Lib.hid hr2
    clear hr1 hr2 hr3
    refine bodyPost_ret (results_cell_row_tmp rfl _ _ p4 27 #[.slice none 0 0, .slice none 0 0, .slice none 0 0] (0, 0) _ rfl HR1.out Tryz.underlying27 rfl (I3.out _ _ _)) rfl ?_
    exact ⟨⟨_, by rw [errV, if_neg HS.out] <;> rfl, by rw [regV, if_neg HS.out]; exact RegOut.empty w5⟩, B1.out.grown HR2.out B1.out.size (fun q e => by cases e; exact SZ.out)⟩
  have t0 : ((checkSetP f l).1 == 0) = true := by simp [hs]
  rw [t0]
  have HS := Lib.hid hs
  clear hs t0
  have B9 := B1
  have P9 := P1
  go_wp2_with fail
  refine (rfolded_any l a n c 99999 W1 (RN.out.below B1.out) (fun x hx => formed_kinds ((set_ok HS.out).2.2.1 x hx)) (fun x hx => Nat.le_trans (formed_len (set_ok HS.out).1 ((set_ok HS.out).2.2.1 x hx)) (by decide)) (by have := (set_ok HS.out).2.1; rw [RN.out.1] at this; omega)).mono ?_
  rintro e W2 ⟨⟨v, rfl, ro⟩, b2⟩
  obtain ⟨ha, hn, hc, ea, en, ec, ca, cn, cc, rfl⟩ := ro.shape
  have RO := Lib.hid ro
  have P2 := Lib.hid (below_blk b2 P9.out)
  have B2 := Lib.hid (B9.out.trans (b2.mono B9.out.size))
  clear ro b2
  go_wp2_with (first
    | (refine wpList_store_blkP rfl 27 _ _ rfl p4 #[.slice none 0 0, .slice none 0 0, .slice none 0 0] #[.slice ha hn hc, .slice ea en ec, .slice ca cn cc] 27 rfl rfl P2.out (I3.out _ _ _) rfl (by simp [Value.oneCell']) ?_; intro w5 hr1 hr2 hr3)
    | fail)
  have HR1 := Lib.hid hr1
  have HR2 := Lib.hid hr2
  clear hr1 hr2 hr3
  refine bodyPost_ret (results_cell_row_tmp rfl _ _ p4 27 #[.slice ha hn hc, .slice ea en ec, .slice ca cn cc] (0, 0) _ rfl HR1.out Tryz.underlying27 rfl (I3.out _ _ _)) rfl ?_
  exact ⟨⟨_, by rw [errV, if_pos HS.out] <;> rfl, by rw [regV, if_pos HS.out]; exact (RO.out.kept HR2.out P2.out).out⟩, B2.out.grown HR2.out B2.out.size (fun q e => by cases e; exact SZ.out)⟩

set_option maxHeartbeats 8000000 in
set_option maxRecDepth 100000 in
theorem rasOf_any (f : FrV) (a : Option Addr) (n c : Nat) (l : List NoteV) (day clock : Int) (w : World) (hr : RdNs w a n c l) :
    Calls Tryz.prog 33 #[f.val, .slice a n c, .int .i64 day, .int .i64 clock] w fun e w' => RegRet f l (upTo clock l) day e w' ∧ Below w.heap.size w w' := by
  have I3 := Lib.hid (show ∀ (x y z : Value), (Tryz.prog.info? 27).map (·.size) = some (#[x, y, z] : Array Value).size from fun x y z => by kernel_rfl)
  have J19 : (Tryz.prog.info? 51).map (·.size) = some 19 := by kernel_rfl
  have IS := Lib.hid (fun W hb => risSet_any f a n c l W (hr.below (show Below w.heap.size w W from hb)))
  have RN := Lib.hid hr
  have hvl : f.val = .agg #[.int .i64 f.rings, .int .i64 f.sectors, .int .i64 f.wide] := rfl
  rw [hvl] at IS ⊢
  clear hvl hr
  have B0 := Lib.hid (((Below.refl w.heap.size w).alloc (Nat.le_refl _) (.cells #[.int .i64 f.rings, .int .i64 f.sectors, .int .i64 f.wide] 23)).alloc (by simp) (.cells #[.slice none 0 0, .slice none 0 0, .slice none 0 0] 27))
  have F0 := Lib.hid (heap_before _ (.cells #[.slice none 0 0, .slice none 0 0, .slice none 0 0] 27) _ _ (heap_last w (.cells #[.int .i64 f.rings, .int .i64 f.sectors, .int .i64 f.wide] 23)))
  have P0 := Lib.hid (heap_at (w.alloc (.cells #[.int .i64 f.rings, .int .i64 f.sectors, .int .i64 f.wide] 23)) (.cells #[.slice none 0 0, .slice none 0 0, .slice none 0 0] 27) (w.heap.size + 1) (by simp))
  go_enter Tryz.func33, Tryz.ntmps33
  go_upto_region 1 with fail
  obtain ⟨pF, hpF⟩ : ∃ p, Hid (w.heap.size = p) := ⟨_, Lib.hid rfl⟩
  obtain ⟨p4, hp4⟩ : ∃ p, Hid (w.heap.size + 1 = p) := ⟨_, Lib.hid rfl⟩
  rw [hpF.out] at F0
  rw [hp4.out] at P0
  rw [hp4.out, hpF.out]
  generalize (w.alloc (.cells #[.int .i64 f.rings, .int .i64 f.sectors, .int .i64 f.wide] 23)).alloc (.cells #[.slice none 0 0, .slice none 0 0, .slice none 0 0] 27) = W0 at *
  have c0 := cell_of F0.out 0 (.int .i64 f.rings) rfl
  have c1 := cell_of F0.out 1 (.int .i64 f.sectors) rfl
  have c2 := cell_of F0.out 2 (.int .i64 f.wide) rfl
  go_wp2_with fail
  refine (IS.out W0 B0.out).mono ?_
  clear c0 c1 c2
  rintro e W1 ⟨rfl, b1⟩
  have B1 := Lib.hid (B0.out.trans (b1.mono B0.out.size))
  have P1 := Lib.hid (below_blk b1 P0.out)
  have SZ : Hid (w.heap.size ≤ p4) := Lib.hid (by have := hp4.out; omega)
  clear b1 B0 F0 P0
  by_cases hs : (checkSetP f l).1 = 0
  case neg =>
    have t0 : ((checkSetP f l).1 == 0) = false := by simp [hs]
    rw [t0]
    have HS := Lib.hid hs
    clear hs t0
    go_wp2_with (first
      | (refine wpList_store_blkP rfl 27 _ _ rfl p4 #[.slice none 0 0, .slice none 0 0, .slice none 0 0] #[.slice none 0 0, .slice none 0 0, .slice none 0 0] 27 rfl rfl P1.out (I3.out _ _ _) rfl (by simp [Value.oneCell']) ?_; intro w5 hr1 hr2 hr3)
      | fail)
    have HR1 := Lib.hid hr1
    have HR2 := Lib.hid hr2
    clear hr1 hr2 hr3
    refine bodyPost_ret (results_cell_row_tmp rfl _ _ p4 27 #[.slice none 0 0, .slice none 0 0, .slice none 0 0] (0, 0) _ rfl HR1.out Tryz.underlying27 rfl (I3.out _ _ _)) rfl ?_
    exact ⟨⟨_, by rw [errV, if_neg HS.out] <;> rfl, by rw [regV, if_neg HS.out]; exact RegOut.empty w5⟩, B1.out.grown HR2.out B1.out.size (fun q e => by cases e; exact SZ.out)⟩
  have t0 : ((checkSetP f l).1 == 0) = true := by simp [hs]
  rw [t0]
  have HS := Lib.hid hs
  clear hs t0
  obtain ⟨xs, hxs, hrl⟩ := RN.out.choose
  have RL := Lib.hid hrl
  have HXS := Lib.hid hxs
  have LNX := Lib.hid hrl.1
  have LOK := Lib.hid (show ∀ W, Below w.heap.size w W → ∀ x ∈ xs, x.ok W from fun W hb x hx => (ls_ok hrl hx).below hb)
  have HN4 := Lib.hid (show n ≤ 400 by have := (set_ok HS.out).2.1; rw [RN.out.1] at this; exact this)
  have hn4 := HN4.out
  clear hxs hrl
  go_wp2_with fail
  go_loopw [10, 11] (fun yv i wr => ∃ (k : Nat) (xa : Option Addr) (xn xc : Nat), yv = .slice xa xn xc ∧ i = .int .i64 (k : Int) ∧ k ≤ n ∧ xn ≤ k ∧ Hid (NlAt W1 wr xa xc xn ((xs.take k).filter (fun y => !decide (clock < y.n.clock))))) (fun _ i _ => n - (intOf i).toNat)
  case atStart => exact ⟨0, none, 0, 0, rfl, rfl, Nat.zero_le _, Nat.le_refl _, Lib.hid (NlAt.start W1)⟩
  case round =>
    obtain ⟨k, xa, xn, xc, rfl, rfl, hk, hxn, SL⟩ := hrel
    by_cases hlt : k < n
    · have t0 : decide ((k : Int) < (n : Int)) = true := by simp; omega
      obtain ⟨y, Hy⟩ : ∃ y, xs[k]? = some y := ⟨_, List.getElem?_eq_getElem (by rw [LNX.out]; exact hlt)⟩
      have NXT := Lib.hid (filt_nx (fun y => !decide (clock < y.n.clock)) Hy)
      have BW := Lib.hid (B1.out.trans (SL.out.bel.mono B1.out.size))
      obtain ⟨b, off, rfl, hat⟩ := (RL.out.below BW.out).at (by omega)
      obtain ⟨o, ho⟩ : ∃ o, Hid (off + k * 19 = o) := ⟨_, Lib.hid rfl⟩
      have HY := Lib.hid (hat k y Hy).1
      rw [ho.out] at HY
      have hix := fun W => idx_off (W := W) (c := c) (b := b) Tryz.underlying43 J19 hlt ho.out
      have hk64 : (k : Int) + 1 ≤ 9223372036854775807 := by omega
      have c2 := HY.out 2 (.int .i64 y.n.clock) rfl
      clear hat Hy
      by_cases hcl : clock < y.n.clock
      · have hle : decide (y.n.clock ≤ clock) = false := decide_eq_false (by omega)
        have N2 := Lib.hid (show (xs.take (k + 1)).filter (fun y => !decide (clock < y.n.clock)) = (xs.take k).filter (fun y => !decide (clock < y.n.clock)) from by rw [NXT.out, if_neg (by simp [hcl])])
        clear hcl NXT
        go_wp2_with fail
        go_roundw
        case rel => exact ⟨k + 1, xa, xn, xc, by go_num, by go_num, by omega, by omega, by rw [N2.out]; exact SL⟩
        case measure => simp [intOf]; omega
      · have hle : decide (y.n.clock ≤ clock) = true := decide_eq_true (by omega)
        have N2 := Lib.hid (show (xs.take (k + 1)).filter (fun y => !decide (clock < y.n.clock)) = (xs.take k).filter (fun y => !decide (clock < y.n.clock)) ++ [y] from by rw [NXT.out, if_pos (by simp [hcl])])
        clear hcl NXT
        have bn : Below wr.heap.size wr (wr.alloc (.cells (noteA y.n y.sa y.sc) 51)) := (Below.refl _ _).alloc (Nat.le_refl _) _
        obtain ⟨a', c', v9, hrun, ho9, hg9⟩ := run_app_nt (wr.alloc (.cells (noteA y.n y.sa y.sc) 51)) W1.heap.size xa xn xc _ (own_below SL.out.own bn) _ 1 1 _ (lit_note wr y.n y.sa y.sc) (y.n.cells_one _ _) (by omega) (Nat.le_trans SL.out.bel.size bn.size)
        have SL3 := Lib.hid (SL.out.add ho9 hg9)
        rw [← N2.out] at SL3
        clear bn ho9 hg9
        go_wp2_with (first
          | (refine wpList_load_mid rfl 51 _ rfl b o rfl (y.n.cells y.sa y.sc) _ HY.out Tryz.underlying51 rfl (size43 y.n y.sa y.sc) ?_)
          | (refine wpList_build_note rfl _ rfl y.n y.sa y.sc rfl ?_)
          | (refine wpList_append_eq rfl _ _ _ rfl _ _ _ rfl rfl hrun ?_)
          | fail)
        go_roundw
        case rel => exact ⟨k + 1, a', xn + 1, c', by go_num, by go_num, by omega, by omega, SL3⟩
        case measure => simp [intOf]; omega
    · have t0 : decide ((k : Int) < (n : Int)) = false := by simp; omega
      rw [List.take_of_length_le (by rw [LNX.out]; omega)] at SL
      have ME : Hid ((xs.filter (fun y => !decide (clock < y.n.clock))).map LN.n = upTo clock l) := Lib.hid (by rw [upTo_map, HXS.out])
      have B9 := Lib.hid (B1.out.trans (SL.out.bel.mono B1.out.size))
      have P9 := Lib.hid (below_blk SL.out.bel P1.out)
      have RE := Lib.hid (show RdNs wr xa xn xc (upTo clock l) by
        have h1 := rdNs_of (RdA.of_own SL.out.own) (fun y hy => LOK.out wr B9.out y (List.mem_filter.1 hy).1)
        rwa [ME.out] at h1)
      have HXN : Hid (xn ≤ 400) := Lib.hid (by omega)
      have SUB := Lib.hid (fun (x : NoteV) (hx : x ∈ upTo clock l) => (set_ok HS.out).2.2.1 x ((upTo_sub clock l).subset hx))
      clear SL hk hxn
      go_wp2_with fail
      clear t0 hlt
      refine (rfolded_any (upTo clock l) xa xn xc day wr RE.out (fun x hx => formed_kinds (SUB.out x hx)) (fun x hx => Nat.le_trans (formed_len (set_ok HS.out).1 (SUB.out x hx)) (by decide)) (by have := HXN.out; omega)).mono ?_
      rintro e W2 ⟨⟨v, rfl, ro⟩, b2⟩
      obtain ⟨ha, hn, hc, ea, en, ec, ca, cn, cc, rfl⟩ := ro.shape
      have RO := Lib.hid ro
      have P2 := Lib.hid (below_blk b2 P9.out)
      have B2 := Lib.hid (B9.out.trans (b2.mono B9.out.size))
      clear ro b2
      go_wp2_with (first
        | (refine wpList_store_blkP rfl 27 _ _ rfl p4 #[.slice none 0 0, .slice none 0 0, .slice none 0 0] #[.slice ha hn hc, .slice ea en ec, .slice ca cn cc] 27 rfl rfl P2.out (I3.out _ _ _) rfl (by simp [Value.oneCell']) ?_; intro w5 hr1 hr2 hr3)
        | fail)
      have HR1 := Lib.hid hr1
      have HR2 := Lib.hid hr2
      clear hr1 hr2 hr3
      refine bodyPost_ret (results_cell_row_tmp rfl _ _ p4 27 #[.slice ha hn hc, .slice ea en ec, .slice ca cn cc] (0, 0) _ rfl HR1.out Tryz.underlying27 rfl (I3.out _ _ _)) rfl ?_
      exact ⟨⟨_, by rw [errV, if_pos HS.out] <;> rfl, by rw [regV, if_pos HS.out]; exact (RO.out.kept HR2.out P2.out).out⟩, B2.out.grown HR2.out B2.out.size (fun q e => by cases e; exact SZ.out)⟩
end Go.Proofs.YtpjiakgfegnmcaaGreat
namespace Go.Proofs.YtpjiakgfegnmcaaGreat
set_option linter.unusedSimpArgs false
open Go.RowKit

set_option maxHeartbeats 16000000 in
set_option maxRecDepth 100000 in
theorem hfolds_any (f : FrV) (a : Option Addr) (nn nc : Nat) (l : List NoteV) (x : AskV) (w : World) (hr : RdNs w a nn nc l) (hok : ∀ y ∈ l, y.Ok) (hx : x.Ok) :
    Calls Tryz.prog 7 #[f.val, .slice a nn nc, .agg x.cells] w fun e w' => e = .returned (.bool true) ∧ Below w.heap.size w w' := by
  have hvl : f.val = .agg #[.int .i64 f.rings, .int .i64 f.sectors, .int .i64 f.wide] := rfl
  have hxl : x.cells = #[.int .i64 x.day, .int .i64 x.clock, .int .i64 x.stone, .int .i64 x.ring, .int .i64 x.heap, .int .i64 x.rh, .int .i64 x.rn] := rfl
  have NM := Lib.hid (show nmOk (x.rh, x.rn) from hx.ref)
  clear hx
  have EO := Lib.hid (fun (W : World) (hr : RdNs W a nn nc l) => (effective_any f a nn nc l W hr hok).mono (R' := fun e w' => EffOut f l e w' ∧ Below W.heap.size W w') (fun e w' h => ⟨eff_out h.1, h.2⟩))
  have REO := Lib.hid (fun (W : World) (hr : RdNs W a nn nc l) => reffective_any f a nn nc l W hr)
  have FO := Lib.hid (fun (W : World) (hr : RdNs W a nn nc l) => fold_out f a nn nc l W hr hok)
  have RFO := Lib.hid (fun (W : World) (hr : RdNs W a nn nc l) => (rfold_any f a nn nc l W hr).mono (R' := fun e w' => ∃ v, e = .returned (.tuple #[v, .int .i64 (errV f l)]) ∧ RegOut w' v (regV f l l 99999) ∧ Below W.heap.size W w') (fun e w' h => by obtain ⟨⟨v, h1, h2⟩, h3⟩ := h; exact ⟨v, h1, h2, h3⟩))
  have AO := Lib.hid (fun (W : World) (hr : RdNs W a nn nc l) => asOf_out f a nn nc l x.day x.clock W hr hok)
  have RAO := Lib.hid (fun (W : World) (hr : RdNs W a nn nc l) => (rasOf_any f a nn nc l x.day x.clock W hr).mono (R' := fun e w' => ∃ v, e = .returned (.tuple #[v, .int .i64 (errV f l)]) ∧ RegOut w' v (regV f l (upTo x.clock l) x.day) ∧ Below W.heap.size W w') (fun e w' h => by obtain ⟨⟨v, h1, h2⟩, h3⟩ := h; exact ⟨v, h1, h2, h3⟩))
  have CO := Lib.hid (fun (W : World) (hr : RdNs W a nn nc l) => chain_any f a nn nc l x.rh x.rn W hr hok NM.out)
  have RCO := Lib.hid (fun (W : World) (hr : RdNs W a nn nc l) => rchain_any f a nn nc l x.rh x.rn W hr)
  rw [hvl] at EO REO FO RFO AO RAO CO RCO ⊢; rw [hxl]; clear hvl hxl
  obtain ⟨eV, heV⟩ : ∃ z, Hid (errV f l = z) := ⟨_, Lib.hid rfl⟩
  obtain ⟨cV, hcV⟩ : ∃ z, Hid (chainV f l (x.rh, x.rn) = z) := ⟨_, Lib.hid rfl⟩
  have gg : (eV == eV) = true := by simp
  have gc : (cV.2 == cV.2) = true := by simp
  unfold EffOut at EO REO
  unfold ChainRet at CO RCO
  rw [heV.out] at EO REO FO RFO AO RAO
  rw [hcV.out] at CO RCO
  have GG := Lib.hid gg
  have GC := Lib.hid gc
  clear gg gc
  have R := Lib.hid hr
  clear hr hok
  have B0 := Lib.hid (((Below.refl w.heap.size w).alloc (Nat.le_refl _) (.cells #[.int .i64 f.rings, .int .i64 f.sectors, .int .i64 f.wide] 23)).alloc (by simp) (.cells #[.int .i64 x.day, .int .i64 x.clock, .int .i64 x.stone, .int .i64 x.ring, .int .i64 x.heap, .int .i64 x.rh, .int .i64 x.rn] 31))
  have F0 := Lib.hid (heap_before _ (.cells #[.int .i64 x.day, .int .i64 x.clock, .int .i64 x.stone, .int .i64 x.ring, .int .i64 x.heap, .int .i64 x.rh, .int .i64 x.rn] 31) _ _ (heap_last w (.cells #[.int .i64 f.rings, .int .i64 f.sectors, .int .i64 f.wide] 23)))
  have A0 := Lib.hid (heap_at (w.alloc (.cells #[.int .i64 f.rings, .int .i64 f.sectors, .int .i64 f.wide] 23)) (.cells #[.int .i64 x.day, .int .i64 x.clock, .int .i64 x.stone, .int .i64 x.ring, .int .i64 x.heap, .int .i64 x.rh, .int .i64 x.rn] 31) (w.heap.size + 1) (by simp))
  go_enter Tryz.func7, Tryz.ntmps7
  go_upto_region 1 with fail
  obtain ⟨pF, hpF⟩ : ∃ p, Hid (w.heap.size = p) := ⟨_, Lib.hid rfl⟩
  obtain ⟨pA, hpA⟩ : ∃ p, Hid (w.heap.size + 1 = p) := ⟨_, Lib.hid rfl⟩
  rw [hpF.out] at F0
  rw [hpA.out] at A0
  rw [hpA.out, hpF.out]
  generalize (w.alloc (.cells #[.int .i64 f.rings, .int .i64 f.sectors, .int .i64 f.wide] 23)).alloc (.cells #[.int .i64 x.day, .int .i64 x.clock, .int .i64 x.stone, .int .i64 x.ring, .int .i64 x.heap, .int .i64 x.rh, .int .i64 x.rn] 31) = W0 at *
  have ST : Hid (HkAt w W0 pF pA f x) := Lib.hid ⟨B0.out, F0.out, A0.out⟩
  clear B0 F0 A0
  go_wp2_with fail
  refine (hawake_any _).mono ?_
  rintro e W1 ⟨rfl, b1⟩
  replace ST := Lib.hid (ST.out.below b1)
  clear b1
  go_wp2_with fail
  refine (few_any a nn nc l _ (R.out.below ST.out.bel)).mono ?_
  rintro e W2 ⟨rfl, rfl⟩
  cases hq : fewB l
  · clear hq
    go_wp2_with fail
    go_ret
    exact ⟨rfl, ST.out.bel⟩
  have c0 := cell_of ST.out.fr 0 (.int .i64 f.rings) rfl
  have c1 := cell_of ST.out.fr 1 (.int .i64 f.sectors) rfl
  have c2 := cell_of ST.out.fr 2 (.int .i64 f.wide) rfl
  go_wp2_with fail
  refine (EO.out _ (R.out.below ST.out.bel)).mono ?_
  rintro e W3 ⟨⟨oa1, on1, oc1, es1, rfl, h1, h2, h3⟩, bb⟩
  have RE1 := Lib.hid h1
  have OE1 := Lib.hid h2
  have EE1 := Lib.hid h3
  replace ST := Lib.hid (ST.out.below bb)
  clear h1 h2 h3 bb c0 c1 c2
  have c0 := cell_of ST.out.fr 0 (.int .i64 f.rings) rfl
  have c1 := cell_of ST.out.fr 1 (.int .i64 f.sectors) rfl
  have c2 := cell_of ST.out.fr 2 (.int .i64 f.wide) rfl
  go_wp2_with fail
  refine (REO.out _ (R.out.below ST.out.bel)).mono ?_
  rintro e W4 ⟨⟨oa2, on2, oc2, es2, rfl, h1, h2, h3⟩, bb⟩
  have RE2 := Lib.hid h1
  have OE2 := Lib.hid h2
  have EE2 := Lib.hid h3
  replace ST := Lib.hid (ST.out.below bb)
  replace RE1 := Lib.hid (RE1.out.below bb)
  replace OE1 := Lib.hid (fun e he => (OE1.out e he).below bb)
  clear h1 h2 h3 bb c0 c1 c2
  have c0 := cell_of ST.out.fr 0 (.int .i64 f.rings) rfl
  have c1 := cell_of ST.out.fr 1 (.int .i64 f.sectors) rfl
  have c2 := cell_of ST.out.fr 2 (.int .i64 f.wide) rfl
  go_wp2_with fail
  refine (FO.out _ (R.out.below ST.out.bel)).mono ?_
  rintro e W5 ⟨v, rfl, ro, bb⟩
  obtain ⟨ha1, hn1, hc1, ea1, en1, ec1, ca1, cn1, cc1, rfl⟩ := ro.shape
  have Q1 := Lib.hid ro
  replace ST := Lib.hid (ST.out.below bb)
  replace RE1 := Lib.hid (RE1.out.below bb)
  replace OE1 := Lib.hid (fun e he => (OE1.out e he).below bb)
  replace RE2 := Lib.hid (RE2.out.below bb)
  replace OE2 := Lib.hid (fun e he => (OE2.out e he).below bb)
  clear ro bb c0 c1 c2
  go_upto_region 7 with fail
  have bb : Below W5.heap.size W5 (W5.alloc (.cells #[.slice ha1 hn1 hc1, .slice ea1 en1 ec1, .slice ca1 cn1 cc1] 27)) := (Below.refl _ _).alloc (Nat.le_refl _) _
  replace ST := Lib.hid (ST.out.below bb)
  replace Q1 := Lib.hid (Q1.out.below bb)
  have P1 := Lib.hid (heap_last W5 (.cells #[.slice ha1 hn1 hc1, .slice ea1 en1 ec1, .slice ca1 cn1 cc1] 27))
  replace RE1 := Lib.hid (RE1.out.below bb)
  replace OE1 := Lib.hid (fun e he => (OE1.out e he).below bb)
  replace RE2 := Lib.hid (RE2.out.below bb)
  replace OE2 := Lib.hid (fun e he => (OE2.out e he).below bb)
  clear bb
  obtain ⟨p1, hp1⟩ : ∃ p, Hid (W5.heap.size = p) := ⟨_, Lib.hid rfl⟩
  rw [hp1.out] at P1 ⊢
  generalize W5.alloc (.cells #[.slice ha1 hn1 hc1, .slice ea1 en1 ec1, .slice ca1 cn1 cc1] 27) = W6 at *
  have c0 := cell_of ST.out.fr 0 (.int .i64 f.rings) rfl
  have c1 := cell_of ST.out.fr 1 (.int .i64 f.sectors) rfl
  have c2 := cell_of ST.out.fr 2 (.int .i64 f.wide) rfl
  go_wp2_with fail
  refine (RFO.out _ (R.out.below ST.out.bel)).mono ?_
  rintro e W7 ⟨v, rfl, ro, bb⟩
  obtain ⟨ha2, hn2, hc2, ea2, en2, ec2, ca2, cn2, cc2, rfl⟩ := ro.shape
  have Q2 := Lib.hid ro
  replace ST := Lib.hid (ST.out.below bb)
  replace RE1 := Lib.hid (RE1.out.below bb)
  replace OE1 := Lib.hid (fun e he => (OE1.out e he).below bb)
  replace RE2 := Lib.hid (RE2.out.below bb)
  replace OE2 := Lib.hid (fun e he => (OE2.out e he).below bb)
  replace Q1 := Lib.hid (Q1.out.below bb)
  replace P1 := Lib.hid (below_blk bb P1.out)
  clear ro bb c0 c1 c2
  go_upto_region 8 with fail
  have bb : Below W7.heap.size W7 (W7.alloc (.cells #[.slice ha2 hn2 hc2, .slice ea2 en2 ec2, .slice ca2 cn2 cc2] 27)) := (Below.refl _ _).alloc (Nat.le_refl _) _
  replace ST := Lib.hid (ST.out.below bb)
  replace Q2 := Lib.hid (Q2.out.below bb)
  have P2 := Lib.hid (heap_last W7 (.cells #[.slice ha2 hn2 hc2, .slice ea2 en2 ec2, .slice ca2 cn2 cc2] 27))
  replace RE1 := Lib.hid (RE1.out.below bb)
  replace OE1 := Lib.hid (fun e he => (OE1.out e he).below bb)
  replace RE2 := Lib.hid (RE2.out.below bb)
  replace OE2 := Lib.hid (fun e he => (OE2.out e he).below bb)
  replace Q1 := Lib.hid (Q1.out.below bb)
  replace P1 := Lib.hid (below_blk bb P1.out)
  clear bb
  obtain ⟨p2, hp2⟩ : ∃ p, Hid (W7.heap.size = p) := ⟨_, Lib.hid rfl⟩
  rw [hp2.out] at P2 ⊢
  generalize W7.alloc (.cells #[.slice ha2 hn2 hc2, .slice ea2 en2 ec2, .slice ca2 cn2 cc2] 27) = W8 at *
  have c0 := cell_of ST.out.fr 0 (.int .i64 f.rings) rfl
  have c1 := cell_of ST.out.fr 1 (.int .i64 f.sectors) rfl
  have c2 := cell_of ST.out.fr 2 (.int .i64 f.wide) rfl
  have a0 := cell_of ST.out.ak 0 (.int .i64 x.day) rfl
  have a1 := cell_of ST.out.ak 1 (.int .i64 x.clock) rfl
  go_wp2_with fail
  refine (AO.out _ (R.out.below ST.out.bel)).mono ?_
  rintro e W9 ⟨v, rfl, ro, bb⟩
  obtain ⟨ha3, hn3, hc3, ea3, en3, ec3, ca3, cn3, cc3, rfl⟩ := ro.shape
  have Q3 := Lib.hid ro
  replace ST := Lib.hid (ST.out.below bb)
  replace RE1 := Lib.hid (RE1.out.below bb)
  replace OE1 := Lib.hid (fun e he => (OE1.out e he).below bb)
  replace RE2 := Lib.hid (RE2.out.below bb)
  replace OE2 := Lib.hid (fun e he => (OE2.out e he).below bb)
  replace Q1 := Lib.hid (Q1.out.below bb)
  replace P1 := Lib.hid (below_blk bb P1.out)
  replace Q2 := Lib.hid (Q2.out.below bb)
  replace P2 := Lib.hid (below_blk bb P2.out)
  clear ro bb c0 c1 c2 a0 a1
  go_upto_region 9 with fail
  have bb : Below W9.heap.size W9 (W9.alloc (.cells #[.slice ha3 hn3 hc3, .slice ea3 en3 ec3, .slice ca3 cn3 cc3] 27)) := (Below.refl _ _).alloc (Nat.le_refl _) _
  replace ST := Lib.hid (ST.out.below bb)
  replace Q3 := Lib.hid (Q3.out.below bb)
  have P3 := Lib.hid (heap_last W9 (.cells #[.slice ha3 hn3 hc3, .slice ea3 en3 ec3, .slice ca3 cn3 cc3] 27))
  replace RE1 := Lib.hid (RE1.out.below bb)
  replace OE1 := Lib.hid (fun e he => (OE1.out e he).below bb)
  replace RE2 := Lib.hid (RE2.out.below bb)
  replace OE2 := Lib.hid (fun e he => (OE2.out e he).below bb)
  replace Q1 := Lib.hid (Q1.out.below bb)
  replace P1 := Lib.hid (below_blk bb P1.out)
  replace Q2 := Lib.hid (Q2.out.below bb)
  replace P2 := Lib.hid (below_blk bb P2.out)
  clear bb
  obtain ⟨p3, hp3⟩ : ∃ p, Hid (W9.heap.size = p) := ⟨_, Lib.hid rfl⟩
  rw [hp3.out] at P3 ⊢
  generalize W9.alloc (.cells #[.slice ha3 hn3 hc3, .slice ea3 en3 ec3, .slice ca3 cn3 cc3] 27) = X1 at *
  have c0 := cell_of ST.out.fr 0 (.int .i64 f.rings) rfl
  have c1 := cell_of ST.out.fr 1 (.int .i64 f.sectors) rfl
  have c2 := cell_of ST.out.fr 2 (.int .i64 f.wide) rfl
  have a0 := cell_of ST.out.ak 0 (.int .i64 x.day) rfl
  have a1 := cell_of ST.out.ak 1 (.int .i64 x.clock) rfl
  go_wp2_with fail
  refine (RAO.out _ (R.out.below ST.out.bel)).mono ?_
  rintro e X2 ⟨v, rfl, ro, bb⟩
  obtain ⟨ha4, hn4, hc4, ea4, en4, ec4, ca4, cn4, cc4, rfl⟩ := ro.shape
  have Q4 := Lib.hid ro
  replace ST := Lib.hid (ST.out.below bb)
  replace RE1 := Lib.hid (RE1.out.below bb)
  replace OE1 := Lib.hid (fun e he => (OE1.out e he).below bb)
  replace RE2 := Lib.hid (RE2.out.below bb)
  replace OE2 := Lib.hid (fun e he => (OE2.out e he).below bb)
  replace Q1 := Lib.hid (Q1.out.below bb)
  replace P1 := Lib.hid (below_blk bb P1.out)
  replace Q2 := Lib.hid (Q2.out.below bb)
  replace P2 := Lib.hid (below_blk bb P2.out)
  replace Q3 := Lib.hid (Q3.out.below bb)
  replace P3 := Lib.hid (below_blk bb P3.out)
  clear ro bb c0 c1 c2 a0 a1
  go_upto_region 10 with fail
  have bb : Below X2.heap.size X2 (X2.alloc (.cells #[.slice ha4 hn4 hc4, .slice ea4 en4 ec4, .slice ca4 cn4 cc4] 27)) := (Below.refl _ _).alloc (Nat.le_refl _) _
  replace ST := Lib.hid (ST.out.below bb)
  replace Q4 := Lib.hid (Q4.out.below bb)
  have P4 := Lib.hid (heap_last X2 (.cells #[.slice ha4 hn4 hc4, .slice ea4 en4 ec4, .slice ca4 cn4 cc4] 27))
  replace RE1 := Lib.hid (RE1.out.below bb)
  replace OE1 := Lib.hid (fun e he => (OE1.out e he).below bb)
  replace RE2 := Lib.hid (RE2.out.below bb)
  replace OE2 := Lib.hid (fun e he => (OE2.out e he).below bb)
  replace Q1 := Lib.hid (Q1.out.below bb)
  replace P1 := Lib.hid (below_blk bb P1.out)
  replace Q2 := Lib.hid (Q2.out.below bb)
  replace P2 := Lib.hid (below_blk bb P2.out)
  replace Q3 := Lib.hid (Q3.out.below bb)
  replace P3 := Lib.hid (below_blk bb P3.out)
  clear bb
  obtain ⟨p4, hp4⟩ : ∃ p, Hid (X2.heap.size = p) := ⟨_, Lib.hid rfl⟩
  rw [hp4.out] at P4 ⊢
  generalize X2.alloc (.cells #[.slice ha4 hn4 hc4, .slice ea4 en4 ec4, .slice ca4 cn4 cc4] 27) = X3 at *
  have c0 := cell_of ST.out.fr 0 (.int .i64 f.rings) rfl
  have c1 := cell_of ST.out.fr 1 (.int .i64 f.sectors) rfl
  have c2 := cell_of ST.out.fr 2 (.int .i64 f.wide) rfl
  have a5 := cell_of ST.out.ak 5 (.int .i64 x.rh) rfl
  have a6 := cell_of ST.out.ak 6 (.int .i64 x.rn) rfl
  go_wp2_with fail
  refine (CO.out _ (R.out.below ST.out.bel)).mono ?_
  rintro e X4 ⟨⟨ma1, mn1, mc1, rfl, h1⟩, bb⟩
  have RC1 := Lib.hid h1
  replace ST := Lib.hid (ST.out.below bb)
  replace RE1 := Lib.hid (RE1.out.below bb)
  replace OE1 := Lib.hid (fun e he => (OE1.out e he).below bb)
  replace RE2 := Lib.hid (RE2.out.below bb)
  replace OE2 := Lib.hid (fun e he => (OE2.out e he).below bb)
  replace Q1 := Lib.hid (Q1.out.below bb)
  replace P1 := Lib.hid (below_blk bb P1.out)
  replace Q2 := Lib.hid (Q2.out.below bb)
  replace P2 := Lib.hid (below_blk bb P2.out)
  replace Q3 := Lib.hid (Q3.out.below bb)
  replace P3 := Lib.hid (below_blk bb P3.out)
  replace Q4 := Lib.hid (Q4.out.below bb)
  replace P4 := Lib.hid (below_blk bb P4.out)
  clear h1 bb c0 c1 c2 a5 a6
  have c0 := cell_of ST.out.fr 0 (.int .i64 f.rings) rfl
  have c1 := cell_of ST.out.fr 1 (.int .i64 f.sectors) rfl
  have c2 := cell_of ST.out.fr 2 (.int .i64 f.wide) rfl
  have a5 := cell_of ST.out.ak 5 (.int .i64 x.rh) rfl
  have a6 := cell_of ST.out.ak 6 (.int .i64 x.rn) rfl
  go_wp2_with fail
  refine (RCO.out _ (R.out.below ST.out.bel)).mono ?_
  rintro e X5 ⟨⟨ma2, mn2, mc2, rfl, h1⟩, bb⟩
  have RC2 := Lib.hid h1
  replace ST := Lib.hid (ST.out.below bb)
  replace RE1 := Lib.hid (RE1.out.below bb)
  replace OE1 := Lib.hid (fun e he => (OE1.out e he).below bb)
  replace RE2 := Lib.hid (RE2.out.below bb)
  replace OE2 := Lib.hid (fun e he => (OE2.out e he).below bb)
  replace Q1 := Lib.hid (Q1.out.below bb)
  replace P1 := Lib.hid (below_blk bb P1.out)
  replace Q2 := Lib.hid (Q2.out.below bb)
  replace P2 := Lib.hid (below_blk bb P2.out)
  replace Q3 := Lib.hid (Q3.out.below bb)
  replace P3 := Lib.hid (below_blk bb P3.out)
  replace Q4 := Lib.hid (Q4.out.below bb)
  replace P4 := Lib.hid (below_blk bb P4.out)
  replace RC1 := Lib.hid (RC1.out.below bb)
  clear h1 bb c0 c1 c2 a5 a6
  have gg := GG.out
  go_wp2_with fail
  refine (sameEvents_eq es1 es2 oa1 on1 oc1 oa2 on2 oc2 _ RE1.out RE2.out OE1.out OE2.out (EE1.out.trans EE2.out.symm)).mono ?_
  rintro e X6 ⟨rfl, bb⟩
  replace ST := Lib.hid (ST.out.below bb)
  replace Q1 := Lib.hid (Q1.out.below bb)
  replace P1 := Lib.hid (below_blk bb P1.out)
  replace Q2 := Lib.hid (Q2.out.below bb)
  replace P2 := Lib.hid (below_blk bb P2.out)
  replace Q3 := Lib.hid (Q3.out.below bb)
  replace P3 := Lib.hid (below_blk bb P3.out)
  replace Q4 := Lib.hid (Q4.out.below bb)
  replace P4 := Lib.hid (below_blk bb P4.out)
  replace RC1 := Lib.hid (RC1.out.below bb)
  replace RC2 := Lib.hid (RC2.out.below bb)
  clear bb RE1 RE2 OE1 OE2 EE1 EE2
  have u1 := cell_of P1.out 0 (.slice ha1 hn1 hc1) rfl
  have v1 := cell_of P1.out 1 (.slice ea1 en1 ec1) rfl
  have t1 := cell_of P1.out 2 (.slice ca1 cn1 cc1) rfl
  have u2 := cell_of P2.out 0 (.slice ha2 hn2 hc2) rfl
  have v2 := cell_of P2.out 1 (.slice ea2 en2 ec2) rfl
  have t2 := cell_of P2.out 2 (.slice ca2 cn2 cc2) rfl
  go_wp2_with fail
  refine (sameReg_out Q1.out Q2.out).mono ?_
  rintro e X7 ⟨rfl, bb⟩
  replace ST := Lib.hid (ST.out.below bb)
  replace Q3 := Lib.hid (Q3.out.below bb)
  replace P3 := Lib.hid (below_blk bb P3.out)
  replace Q4 := Lib.hid (Q4.out.below bb)
  replace P4 := Lib.hid (below_blk bb P4.out)
  replace RC1 := Lib.hid (RC1.out.below bb)
  replace RC2 := Lib.hid (RC2.out.below bb)
  clear bb Q1 Q2 P1 P2 u1 v1 t1 u2 v2 t2
  have u3 := cell_of P3.out 0 (.slice ha3 hn3 hc3) rfl
  have v3 := cell_of P3.out 1 (.slice ea3 en3 ec3) rfl
  have t3 := cell_of P3.out 2 (.slice ca3 cn3 cc3) rfl
  have u4 := cell_of P4.out 0 (.slice ha4 hn4 hc4) rfl
  have v4 := cell_of P4.out 1 (.slice ea4 en4 ec4) rfl
  have t4 := cell_of P4.out 2 (.slice ca4 cn4 cc4) rfl
  go_wp2_with fail
  refine (sameReg_out Q3.out Q4.out).mono ?_
  rintro e X8 ⟨rfl, bb⟩
  replace ST := Lib.hid (ST.out.below bb)
  replace RC1 := Lib.hid (RC1.out.below bb)
  replace RC2 := Lib.hid (RC2.out.below bb)
  clear bb Q3 Q4 P3 P4 u3 v3 t3 u4 v4 t4
  go_wp2_with fail
  refine (sameNames_any ma1 mn1 mc1 cV.1 ma2 mn2 mc2 cV.1 _ RC1.out RC2.out).mono ?_
  rintro r X9 ⟨rfl, q9, hw9⟩
  have BE : Hid (Below w.heap.size w X9) := Lib.hid (by rw [hw9]; exact below_drewN ST.out.bel q9)
  clear hw9
  rw [decide_eq_true rfl]
  have gc := GC.out
  go_wp2_with fail
  go_ret
  exact ⟨rfl, BE.out⟩
end Go.Proofs.YtpjiakgfegnmcaaGreat
namespace Go.Proofs.YtpjiakgfegnmcaaGreat
open Go.ChangeShapes Go.WideShapes Go.ChangeAt Go.RowKit

set_option maxRecDepth 100000 in
theorem historyFolds_lifted (os : Os) (started : os.Started) (H : Type) (enc : TypeId × Value → H) :
    ReturnsInHanded {} Tryz.checked os 7 .any (Rows.historyFoldsSpec.pre6 enc Tryz.prog Tryz.f7 Rows.historyFoldsRow.domain false) (Rows.historyFoldsSpec.post enc Tryz.prog Tryz.f7 false true false false) := by
  refine returnsInHanded_of_change (C := Tryz.checked) Tryz.own started (by kernel_rfl) Tryz.func7
    (ChangeSpec.witness6 (enc := enc) (C := Tryz.checked) false ⟨#[], #[.agg #[.int .i64 0, .int .i64 0, .int .i64 0], .slice none 0 0, .agg #[.int .i64 0, .int .i64 0, .int .i64 0, .int .i64 0, .int .i64 0, .int .i64 0, .int .i64 0]], []⟩ 8 (by kernel_rfl) (by kernel_rfl) (by kernel_rfl) (by kernel_rfl)) ?_
  intro W base args ds gs before hval0 hW hcnd _
  have hval : ∀ (j : Nat) t v, Tryz.f7.params[j]? = some t → args[j]? = some v → Value.okWide Tryz.prog W .any base t v := hval0
  have hW' := hW
  obtain ⟨p, q, hA0, hV, rfl, hfz, hnd⟩ := hW
  have hA : DataW.TrodAll enc Tryz.prog W 0 (fun _ => true) true Tryz.f7.params.toList args.toList ds p := hA0
  have hA1 := hA
  rw [Tryz.params7] at hA hval
  obtain ⟨v0, v1, v2, d0, d1, d2, p0, p1, p2, rfl, rfl, rfl, h0, h1, h2⟩ := trodAll_three hA
  obtain ⟨rfl, rfl⟩ := trodVars_none hV
  obtain ⟨f, rfl⟩ := hopen_frame (hval 0 23 v0 rfl rfl) h0
  obtain ⟨a, n, c, l, rfl, r1, r2⟩ := open_notes (hval 1 43 v1 rfl rfl) h1
  obtain ⟨x, rfl, hx⟩ := open_ask (hval 2 31 v2 rfl rfl) h2
  clear hA0 hval0
  simp only [List.append_nil] at hW'
  refine (hfolds_any f a n c l x W r1 r2 hx).mono fun e W' ⟨he, hb⟩ => ?_
  subst he
  exact ⟨_, rfl, post_of_law Tryz.laidOut Tryz.underlying4 rfl (by kernel_rfl) (by kernel_rfl) hW' hA1 rfl hb⟩

theorem historyFolds_holds : Rows.HistoryFoldsSaid :=
  OpenClaim.holds_of_wide 7 Tryz.f7 rfl rfl rfl rfl rfl rfl rfl ⟨rfl, rfl, rfl, rfl, rfl⟩ rfl rfl rfl rfl rfl (by kernel_rfl) Tryz.func7 (by kernel_rfl)
    (of_decide_eq_true (by kernel_rfl)) (by unfold Func.isWrapper; first | (rw [if_pos (by decide +kernel)]; kernel_rfl) | (rw [if_neg (by decide +kernel)]; exact ⟨rfl, rfl⟩))
    (fun os started H enc _ => historyFolds_lifted os started H enc)
#print axioms historyFolds_holds
end Go.Proofs.YtpjiakgfegnmcaaGreat
