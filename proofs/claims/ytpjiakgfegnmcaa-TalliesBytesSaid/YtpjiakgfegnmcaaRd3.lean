/- The reference's reader: note. -/
import Derived.Test.YtpjiakgfegnmcaaRd2
namespace Go.Proofs.Ytpjiakgfegnmcaa
open Go.RowKit
/-- k numbers have been read, or something was wrong. -/
def RS (l : List UInt8) (k : Nat) (xs : List Int) (at_ : Nat) (bad : Bool) : Prop := (bad = false ∧ many numR k l = some (xs, l.drop at_)) ∨ (bad = true ∧ many numR k l = none)
theorem RS.step {l : List UInt8} {k : Nat} {xs : List Int} {at_ at' : Nat} {bad bad' : Bool} {z : Int} (h : RS l k xs at_ bad)
    (hn : (numR (l.drop at_) = some (z, l.drop at') ∧ bad' = bad) ∨ (numR (l.drop at_) = none ∧ bad' = true ∧ z = 0)) : RS l (k + 1) (xs ++ [z]) at' bad' := by
  rcases h with ⟨rfl, h⟩ | ⟨rfl, h⟩
  · rcases hn with ⟨e, rfl⟩ | ⟨e, rfl, _⟩
    · exact .inl ⟨rfl, many_succ h e⟩
    · exact .inr ⟨rfl, many_fail h e _ (Nat.lt_succ_self k)⟩
  · refine .inr ⟨?_, many_stop h _ (Nat.le_succ k)⟩
    rcases hn with ⟨_, rfl⟩ | ⟨_, rfl, _⟩ <;> rfl
def RS3 (l : List UInt8) (xs ys : List Int) (j : Nat) (zs : List Int) (at_ : Nat) (bad : Bool) : Prop :=
  (bad = false ∧ ∃ k t t1 t2, many numR 15 l = some (xs, t) ∧ lenF numR t = some (k, t1) ∧ many numR k t1 = some (ys, t2) ∧ many numR j t2 = some (zs, l.drop at_)) ∨ (bad = true ∧ noteF numR l = none)
theorem RS.nums {l : List UInt8} {xs ys : List Int} {at_ at' : Nat} {bad bad' : Bool} (h : RS l 15 xs at_ bad) (hn : NumsRel l at_ bad ys at' bad') : RS3 l xs ys 0 [] at' bad' := by
  rcases hn with ⟨rfl, rfl, k, t1, e1, e2⟩ | ⟨rfl, e⟩
  · rcases h with ⟨_, h⟩ | ⟨h, _⟩
    · exact .inl ⟨rfl, k, _, t1, _, h, e1, e2, rfl⟩
    · cases h
  · refine .inr ⟨rfl, ?_⟩
    rcases h with ⟨rfl, h⟩ | ⟨rfl, h⟩
    · rcases e with e | e | ⟨k, t1, e, e2⟩
      · cases e
      · exact noteF_2 h e
      · rw [noteF_3 h e, e2]
    · exact noteF_1 h
theorem RS3.step {l : List UInt8} {xs ys : List Int} {j : Nat} {zs : List Int} {at_ at' : Nat} {bad bad' : Bool} {z : Int} (h : RS3 l xs ys j zs at_ bad) (hj : j < 3)
    (hn : (numR (l.drop at_) = some (z, l.drop at') ∧ bad' = bad) ∨ (numR (l.drop at_) = none ∧ bad' = true ∧ z = 0)) : RS3 l xs ys (j + 1) (zs ++ [z]) at' bad' := by
  rcases h with ⟨rfl, k, t, t1, t2, h1, h2, h3, h4⟩ | ⟨rfl, h⟩
  · rcases hn with ⟨e, rfl⟩ | ⟨e, rfl, _⟩
    · exact .inl ⟨rfl, k, t, t1, t2, h1, h2, h3, many_succ h4 e⟩
    · refine .inr ⟨rfl, ?_⟩
      rw [noteF_3 h1 h2, h3]
      simp only
      rw [many_fail h4 e 3 hj]
  · refine .inr ⟨?_, h⟩
    rcases hn with ⟨_, rfl⟩ | ⟨_, rfl, _⟩ <;> rfl
theorem RS3.fin {l : List UInt8} {xs ys zs : List Int} {at_ : Nat} {bad : Bool} (h : RS3 l xs ys 3 zs at_ bad) : (bad = false ∧ noteF numR l = some (mkN xs ys zs, l.drop at_)) ∨ (bad = true ∧ noteF numR l = none) := by
  rcases h with ⟨rfl, k, t, t1, t2, h1, h2, h3, h4⟩ | h
  · refine .inl ⟨rfl, ?_⟩
    rw [noteF_3 h1 h2, h3]
    simp only
    rw [h4]
  · exact .inr h
/-- While a note is read: its block, the block of the result, the reader, and what has turned since wf. -/
structure QInv (wf W : World) (rp p1 nb : Nat) (m : NoteV) (sa : Option Addr) (sc : Nat) (l : List UInt8) (a : Option Addr) (n c at_ : Nat) (bad : Bool) : Prop where
  e : W.heap[nb]? = some (.cells (noteA m sa sc) 43 (0, 0))
  e1 : W.heap[p1]? = some (.cells (noteA zeroN none 0) 43 (0, 0))
  r : RdQ W rp l a n c at_ bad
  s : Same (fun k => k = rp ∨ p1 ≤ k) wf W
  o : 0 < n → ∀ b off, a = some ⟨b, off, none⟩ → b < p1
  lt : rp < p1 ∧ p1 < nb
section
variable {wf W W' : World} {rp p1 nb : Nat} {m : NoteV} {sa : Option Addr} {sc : Nat} {l : List UInt8} {a : Option Addr} {n c at_ at' : Nat} {bad bad' : Bool}
theorem QInv.number (h : QInv wf W rp p1 nb m sa sc l a n c at_ bad) (hr : RdQ W' rp l a n c at' bad') (hs : Same (fun k => k = rp) W W') : QInv wf W' rp p1 nb m sa sc l a n c at' bad' :=
  have hl := h.lt
  ⟨(hs.block _ (Array.getElem?_eq_some_iff.1 h.e).1 (by omega)).trans h.e, (hs.block _ (Array.getElem?_eq_some_iff.1 h.e1).1 (by omega)).trans h.e1, hr, h.s.trans (same_imp hs fun k e => .inl e), h.o, h.lt⟩
theorem QInv.set (h : QInv wf W rp p1 nb m sa sc l a n c at_ bad) (j : Nat) (v : Value) {m' : NoteV} {sa' : Option Addr} {sc' : Nat} (hv : (noteA m sa sc).setIfInBounds j v = noteA m' sa' sc') : QInv wf (W.setCell ⟨nb, j, none⟩ v) rp p1 nb m' sa' sc' l a n c at_ bad :=
  have hl := h.lt
  have hs := same_at W nb j v
  ⟨by rw [← hv]; exact heap_setCell_same W nb j _ _ v h.e, (hs.block _ (Array.getElem?_eq_some_iff.1 h.e1).1 (by omega)).trans h.e1, h.r.same hs (by omega) (fun h0 b off e => by have := h.o h0 b off e; omega), h.s.trans (same_imp hs fun k e => .inr (by rw [e]; omega)), h.o, h.lt⟩
end
/-- What note has read, or that something was wrong. -/
def NoteEnd (rp : Nat) (l : List UInt8) (a : Option Addr) (n c : Nat) (m : NoteV) (w w' : World) : Prop :=
  ∃ at' bad', RdQ w' rp l a n c at' bad' ∧ Same (fun k => k = rp) w w' ∧ ((bad' = false ∧ noteF numR l = some (m, l.drop at')) ∨ (bad' = true ∧ noteF numR l = none))
section
attribute [local go_sem] noteA_0
set_option maxHeartbeats 8000000 in
set_option maxRecDepth 100000 in
theorem rnote_any (rp : Nat) (l : List UInt8) (a : Option Addr) (n c : Nat) (w : World) (h : RdQ w rp l a n c 0 false) (hl : l.length ≤ 1000000) :
    Calls Try.prog 59 #[.pointer (some ⟨rp, 0, none⟩)] w fun e w' => ∃ (m : NoteV) (sa : Option Addr) (sc : Nat), e = .returned (.agg (noteA m sa sc)) ∧ w'.ownsRow w.heap.size 3 1 (.slice sa m.strokes.length sc) m.strokes.length (m.strokes.map intV) ∧ NoteEnd rp l a n c m w w' := by
  have I43 := Lib.hid (show ∀ (m : NoteV) (a : Option Addr) (c : Nat), (Try.prog.info? 43).map (·.size) = some (noteA m a c).size from fun m a c => by kernel_rfl)
  have hrp : rp < w.heap.size := (Array.getElem?_eq_some_iff.1 h.e).1
  have RL := Lib.hid (show 0 < n → ∀ b off, a = some ⟨b, off, none⟩ → b < w.heap.size from fun h0 b off e => rd_lt h.r h0 (by omega) b off e)
  have g1 := heap_before _ (.cells (noteA zeroN none 0) 43) _ _ (heap_last w (.cells (noteA zeroN none 0) 43))
  have g2 := heap_at (w.alloc (.cells (noteA zeroN none 0) 43)) (.cells (noteA zeroN none 0) 43) (w.heap.size + 1) (by simp)
  have bb : Below w.heap.size w ((w.alloc (.cells (noteA zeroN none 0) 43)).alloc (.cells (noteA zeroN none 0) 43)) := ((Below.refl _ _).alloc (Nat.le_refl _) _).alloc (by simp) _
  have Q0 : Hid (QInv w ((w.alloc (.cells (noteA zeroN none 0) 43)).alloc (.cells (noteA zeroN none 0) 43)) rp w.heap.size (w.heap.size + 1) (mkN [] [] []) none 0 l a n c 0 false) :=
    Lib.hid ⟨g2, g1, h.same (S := fun _ => False) (Same.of_below bb) id (fun _ _ _ _ => id), Same.of_below bb, RL.out, by omega⟩
  clear g1 g2 bb hrp RL h
  go_enter Try.func59, Try.ntmps59
  go_upto_region 2 with fail
  simp only [← noteA_zero]
  generalize (w.alloc (.cells (noteA zeroN none 0) 43)).alloc (.cells (noteA zeroN none 0) 43) = W0 at *
  generalize hp1 : w.heap.size = p1 at *
  generalize hnb : p1 + 1 = nb at *
  have HP1 := Lib.hid hp1; clear hp1 hnb
  have S0 : Hid (RS l 0 [] 0 false) := Lib.hid (.inl ⟨rfl, rfl⟩)
  have X0 : Hid (([] : List Int).length = 0) := Lib.hid rfl
  go_wp2_with fail
  refine (rnumber9_any rp l a n c 0 false W0 Q0.out.r).mono ?_
  rintro e v1 ⟨z1, at1, bad1, rfl, h2, h3, h4⟩
  have q := Q0.out.number h2 h3
  have S1' := S0.out.step h4
  clear h2 h3 h4
  have e2 : v1.cell? ⟨nb, 0, none⟩ = some (.int .i64 ((aheadN (mkN [] [] []))[0]?.getD 0)) := cell_of q.e _ _ (ahead_cell (mkN [] [] []) none 0 0 (by decide))
  have f2 := frozen_of q.e 0
  obtain ⟨y, hy⟩ : ∃ y, Hid (y = (aheadN (mkN [] [] []))[0]?.getD 0) := ⟨_, Lib.hid rfl⟩
  rw [← hy.out] at e2
  have q2 := q.set 0 (.int .i64 z1) (by have := set_ahead [] z1 (by rw [X0.out]; decide); rwa [X0.out] at this)
  obtain ⟨xs1, hx⟩ : ∃ xs, Hid (xs = [] ++ [z1]) := ⟨_, Lib.hid rfl⟩
  have X1 : Hid (xs1.length = 1) := Lib.hid (by rw [hx.out, List.length_append, X0.out]; rfl)
  rw [← hx.out] at q2 S1'
  have Q1 := Lib.hid q2; clear q2 q
  have S1 := Lib.hid S1'; clear S1' hy hx Q0 S0 X0
  go_upto_region 3 with fail
  clear e2 f2
  generalize v1.setCell ⟨nb, 0, none⟩ (.int .i64 z1) = W1 at *
  go_wp2_with fail
  refine (rnumber9_any rp l a n c at1 bad1 W1 Q1.out.r).mono ?_
  rintro e v2 ⟨z2, at2, bad2, rfl, h2, h3, h4⟩
  have q := Q1.out.number h2 h3
  have S2' := S1.out.step h4
  clear h2 h3 h4
  have e2 : v2.cell? ⟨nb, 1, none⟩ = some (.int .i64 ((aheadN (mkN xs1 [] []))[1]?.getD 0)) := cell_of q.e _ _ (ahead_cell (mkN xs1 [] []) none 0 1 (by decide))
  have f2 := frozen_of q.e 1
  obtain ⟨y, hy⟩ : ∃ y, Hid (y = (aheadN (mkN xs1 [] []))[1]?.getD 0) := ⟨_, Lib.hid rfl⟩
  rw [← hy.out] at e2
  have q2 := q.set 1 (.int .i64 z2) (by have := set_ahead xs1 z2 (by rw [X1.out]; decide); rwa [X1.out] at this)
  obtain ⟨xs2, hx⟩ : ∃ xs, Hid (xs = xs1 ++ [z2]) := ⟨_, Lib.hid rfl⟩
  have X2 : Hid (xs2.length = 2) := Lib.hid (by rw [hx.out, List.length_append, X1.out]; rfl)
  rw [← hx.out] at q2 S2'
  have Q2 := Lib.hid q2; clear q2 q
  have S2 := Lib.hid S2'; clear S2' hy hx Q1 S1 X1
  go_upto_region 4 with fail
  clear e2 f2
  generalize v2.setCell ⟨nb, 1, none⟩ (.int .i64 z2) = W2 at *
  go_wp2_with fail
  refine (rnumber9_any rp l a n c at2 bad2 W2 Q2.out.r).mono ?_
  rintro e v3 ⟨z3, at3, bad3, rfl, h2, h3, h4⟩
  have q := Q2.out.number h2 h3
  have S3' := S2.out.step h4
  clear h2 h3 h4
  have e2 : v3.cell? ⟨nb, 2, none⟩ = some (.int .i64 ((aheadN (mkN xs2 [] []))[2]?.getD 0)) := cell_of q.e _ _ (ahead_cell (mkN xs2 [] []) none 0 2 (by decide))
  have f2 := frozen_of q.e 2
  obtain ⟨y, hy⟩ : ∃ y, Hid (y = (aheadN (mkN xs2 [] []))[2]?.getD 0) := ⟨_, Lib.hid rfl⟩
  rw [← hy.out] at e2
  have q2 := q.set 2 (.int .i64 z3) (by have := set_ahead xs2 z3 (by rw [X2.out]; decide); rwa [X2.out] at this)
  obtain ⟨xs3, hx⟩ : ∃ xs, Hid (xs = xs2 ++ [z3]) := ⟨_, Lib.hid rfl⟩
  have X3 : Hid (xs3.length = 3) := Lib.hid (by rw [hx.out, List.length_append, X2.out]; rfl)
  rw [← hx.out] at q2 S3'
  have Q3 := Lib.hid q2; clear q2 q
  have S3 := Lib.hid S3'; clear S3' hy hx Q2 S2 X2
  go_upto_region 5 with fail
  clear e2 f2
  generalize v3.setCell ⟨nb, 2, none⟩ (.int .i64 z3) = W3 at *
  go_wp2_with fail
  refine (rnumber9_any rp l a n c at3 bad3 W3 Q3.out.r).mono ?_
  rintro e v4 ⟨z4, at4, bad4, rfl, h2, h3, h4⟩
  have q := Q3.out.number h2 h3
  have S4' := S3.out.step h4
  clear h2 h3 h4
  have e2 : v4.cell? ⟨nb, 3, none⟩ = some (.int .i64 ((aheadN (mkN xs3 [] []))[3]?.getD 0)) := cell_of q.e _ _ (ahead_cell (mkN xs3 [] []) none 0 3 (by decide))
  have f2 := frozen_of q.e 3
  obtain ⟨y, hy⟩ : ∃ y, Hid (y = (aheadN (mkN xs3 [] []))[3]?.getD 0) := ⟨_, Lib.hid rfl⟩
  rw [← hy.out] at e2
  have q2 := q.set 3 (.int .i64 z4) (by have := set_ahead xs3 z4 (by rw [X3.out]; decide); rwa [X3.out] at this)
  obtain ⟨xs4, hx⟩ : ∃ xs, Hid (xs = xs3 ++ [z4]) := ⟨_, Lib.hid rfl⟩
  have X4 : Hid (xs4.length = 4) := Lib.hid (by rw [hx.out, List.length_append, X3.out]; rfl)
  rw [← hx.out] at q2 S4'
  have Q4 := Lib.hid q2; clear q2 q
  have S4 := Lib.hid S4'; clear S4' hy hx Q3 S3 X3
  go_upto_region 6 with fail
  clear e2 f2
  generalize v4.setCell ⟨nb, 3, none⟩ (.int .i64 z4) = W4 at *
  go_wp2_with fail
  refine (rnumber9_any rp l a n c at4 bad4 W4 Q4.out.r).mono ?_
  rintro e v5 ⟨z5, at5, bad5, rfl, h2, h3, h4⟩
  have q := Q4.out.number h2 h3
  have S5' := S4.out.step h4
  clear h2 h3 h4
  have e2 : v5.cell? ⟨nb, 4, none⟩ = some (.int .i64 ((aheadN (mkN xs4 [] []))[4]?.getD 0)) := cell_of q.e _ _ (ahead_cell (mkN xs4 [] []) none 0 4 (by decide))
  have f2 := frozen_of q.e 4
  obtain ⟨y, hy⟩ : ∃ y, Hid (y = (aheadN (mkN xs4 [] []))[4]?.getD 0) := ⟨_, Lib.hid rfl⟩
  rw [← hy.out] at e2
  have q2 := q.set 4 (.int .i64 z5) (by have := set_ahead xs4 z5 (by rw [X4.out]; decide); rwa [X4.out] at this)
  obtain ⟨xs5, hx⟩ : ∃ xs, Hid (xs = xs4 ++ [z5]) := ⟨_, Lib.hid rfl⟩
  have X5 : Hid (xs5.length = 5) := Lib.hid (by rw [hx.out, List.length_append, X4.out]; rfl)
  rw [← hx.out] at q2 S5'
  have Q5 := Lib.hid q2; clear q2 q
  have S5 := Lib.hid S5'; clear S5' hy hx Q4 S4 X4
  go_upto_region 7 with fail
  clear e2 f2
  generalize v5.setCell ⟨nb, 4, none⟩ (.int .i64 z5) = W5 at *
  go_wp2_with fail
  refine (rnumber9_any rp l a n c at5 bad5 W5 Q5.out.r).mono ?_
  rintro e v6 ⟨z6, at6, bad6, rfl, h2, h3, h4⟩
  have q := Q5.out.number h2 h3
  have S6' := S5.out.step h4
  clear h2 h3 h4
  have e2 : v6.cell? ⟨nb, 5, none⟩ = some (.int .i64 ((aheadN (mkN xs5 [] []))[5]?.getD 0)) := cell_of q.e _ _ (ahead_cell (mkN xs5 [] []) none 0 5 (by decide))
  have f2 := frozen_of q.e 5
  obtain ⟨y, hy⟩ : ∃ y, Hid (y = (aheadN (mkN xs5 [] []))[5]?.getD 0) := ⟨_, Lib.hid rfl⟩
  rw [← hy.out] at e2
  have q2 := q.set 5 (.int .i64 z6) (by have := set_ahead xs5 z6 (by rw [X5.out]; decide); rwa [X5.out] at this)
  obtain ⟨xs6, hx⟩ : ∃ xs, Hid (xs = xs5 ++ [z6]) := ⟨_, Lib.hid rfl⟩
  have X6 : Hid (xs6.length = 6) := Lib.hid (by rw [hx.out, List.length_append, X5.out]; rfl)
  rw [← hx.out] at q2 S6'
  have Q6 := Lib.hid q2; clear q2 q
  have S6 := Lib.hid S6'; clear S6' hy hx Q5 S5 X5
  go_upto_region 8 with fail
  clear e2 f2
  generalize v6.setCell ⟨nb, 5, none⟩ (.int .i64 z6) = W6 at *
  go_wp2_with fail
  refine (rnumber9_any rp l a n c at6 bad6 W6 Q6.out.r).mono ?_
  rintro e v7 ⟨z7, at7, bad7, rfl, h2, h3, h4⟩
  have q := Q6.out.number h2 h3
  have S7' := S6.out.step h4
  clear h2 h3 h4
  have e2 : v7.cell? ⟨nb, 6, none⟩ = some (.int .i64 ((aheadN (mkN xs6 [] []))[6]?.getD 0)) := cell_of q.e _ _ (ahead_cell (mkN xs6 [] []) none 0 6 (by decide))
  have f2 := frozen_of q.e 6
  obtain ⟨y, hy⟩ : ∃ y, Hid (y = (aheadN (mkN xs6 [] []))[6]?.getD 0) := ⟨_, Lib.hid rfl⟩
  rw [← hy.out] at e2
  have q2 := q.set 6 (.int .i64 z7) (by have := set_ahead xs6 z7 (by rw [X6.out]; decide); rwa [X6.out] at this)
  obtain ⟨xs7, hx⟩ : ∃ xs, Hid (xs = xs6 ++ [z7]) := ⟨_, Lib.hid rfl⟩
  have X7 : Hid (xs7.length = 7) := Lib.hid (by rw [hx.out, List.length_append, X6.out]; rfl)
  rw [← hx.out] at q2 S7'
  have Q7 := Lib.hid q2; clear q2 q
  have S7 := Lib.hid S7'; clear S7' hy hx Q6 S6 X6
  go_upto_region 9 with fail
  clear e2 f2
  generalize v7.setCell ⟨nb, 6, none⟩ (.int .i64 z7) = W7 at *
  go_wp2_with fail
  refine (rnumber9_any rp l a n c at7 bad7 W7 Q7.out.r).mono ?_
  rintro e v8 ⟨z8, at8, bad8, rfl, h2, h3, h4⟩
  have q := Q7.out.number h2 h3
  have S8' := S7.out.step h4
  clear h2 h3 h4
  have e2 : v8.cell? ⟨nb, 7, none⟩ = some (.int .i64 ((aheadN (mkN xs7 [] []))[7]?.getD 0)) := cell_of q.e _ _ (ahead_cell (mkN xs7 [] []) none 0 7 (by decide))
  have f2 := frozen_of q.e 7
  obtain ⟨y, hy⟩ : ∃ y, Hid (y = (aheadN (mkN xs7 [] []))[7]?.getD 0) := ⟨_, Lib.hid rfl⟩
  rw [← hy.out] at e2
  have q2 := q.set 7 (.int .i64 z8) (by have := set_ahead xs7 z8 (by rw [X7.out]; decide); rwa [X7.out] at this)
  obtain ⟨xs8, hx⟩ : ∃ xs, Hid (xs = xs7 ++ [z8]) := ⟨_, Lib.hid rfl⟩
  have X8 : Hid (xs8.length = 8) := Lib.hid (by rw [hx.out, List.length_append, X7.out]; rfl)
  rw [← hx.out] at q2 S8'
  have Q8 := Lib.hid q2; clear q2 q
  have S8 := Lib.hid S8'; clear S8' hy hx Q7 S7 X7
  go_upto_region 10 with fail
  clear e2 f2
  generalize v8.setCell ⟨nb, 7, none⟩ (.int .i64 z8) = W8 at *
  go_wp2_with fail
  refine (rnumber9_any rp l a n c at8 bad8 W8 Q8.out.r).mono ?_
  rintro e v9 ⟨z9, at9, bad9, rfl, h2, h3, h4⟩
  have q := Q8.out.number h2 h3
  have S9' := S8.out.step h4
  clear h2 h3 h4
  have e2 : v9.cell? ⟨nb, 8, none⟩ = some (.int .i64 ((aheadN (mkN xs8 [] []))[8]?.getD 0)) := cell_of q.e _ _ (ahead_cell (mkN xs8 [] []) none 0 8 (by decide))
  have f2 := frozen_of q.e 8
  obtain ⟨y, hy⟩ : ∃ y, Hid (y = (aheadN (mkN xs8 [] []))[8]?.getD 0) := ⟨_, Lib.hid rfl⟩
  rw [← hy.out] at e2
  have q2 := q.set 8 (.int .i64 z9) (by have := set_ahead xs8 z9 (by rw [X8.out]; decide); rwa [X8.out] at this)
  obtain ⟨xs9, hx⟩ : ∃ xs, Hid (xs = xs8 ++ [z9]) := ⟨_, Lib.hid rfl⟩
  have X9 : Hid (xs9.length = 9) := Lib.hid (by rw [hx.out, List.length_append, X8.out]; rfl)
  rw [← hx.out] at q2 S9'
  have Q9 := Lib.hid q2; clear q2 q
  have S9 := Lib.hid S9'; clear S9' hy hx Q8 S8 X8
  go_upto_region 11 with fail
  clear e2 f2
  generalize v9.setCell ⟨nb, 8, none⟩ (.int .i64 z9) = W9 at *
  go_wp2_with fail
  refine (rnumber9_any rp l a n c at9 bad9 W9 Q9.out.r).mono ?_
  rintro e v10 ⟨z10, at10, bad10, rfl, h2, h3, h4⟩
  have q := Q9.out.number h2 h3
  have S10' := S9.out.step h4
  clear h2 h3 h4
  have e2 : v10.cell? ⟨nb, 9, none⟩ = some (.int .i64 ((aheadN (mkN xs9 [] []))[9]?.getD 0)) := cell_of q.e _ _ (ahead_cell (mkN xs9 [] []) none 0 9 (by decide))
  have f2 := frozen_of q.e 9
  obtain ⟨y, hy⟩ : ∃ y, Hid (y = (aheadN (mkN xs9 [] []))[9]?.getD 0) := ⟨_, Lib.hid rfl⟩
  rw [← hy.out] at e2
  have q2 := q.set 9 (.int .i64 z10) (by have := set_ahead xs9 z10 (by rw [X9.out]; decide); rwa [X9.out] at this)
  obtain ⟨xs10, hx⟩ : ∃ xs, Hid (xs = xs9 ++ [z10]) := ⟨_, Lib.hid rfl⟩
  have X10 : Hid (xs10.length = 10) := Lib.hid (by rw [hx.out, List.length_append, X9.out]; rfl)
  rw [← hx.out] at q2 S10'
  have Q10 := Lib.hid q2; clear q2 q
  have S10 := Lib.hid S10'; clear S10' hy hx Q9 S9 X9
  go_upto_region 12 with fail
  clear e2 f2
  generalize v10.setCell ⟨nb, 9, none⟩ (.int .i64 z10) = W10 at *
  go_wp2_with fail
  refine (rnumber9_any rp l a n c at10 bad10 W10 Q10.out.r).mono ?_
  rintro e v11 ⟨z11, at11, bad11, rfl, h2, h3, h4⟩
  have q := Q10.out.number h2 h3
  have S11' := S10.out.step h4
  clear h2 h3 h4
  have e2 : v11.cell? ⟨nb, 10, none⟩ = some (.int .i64 ((aheadN (mkN xs10 [] []))[10]?.getD 0)) := cell_of q.e _ _ (ahead_cell (mkN xs10 [] []) none 0 10 (by decide))
  have f2 := frozen_of q.e 10
  obtain ⟨y, hy⟩ : ∃ y, Hid (y = (aheadN (mkN xs10 [] []))[10]?.getD 0) := ⟨_, Lib.hid rfl⟩
  rw [← hy.out] at e2
  have q2 := q.set 10 (.int .i64 z11) (by have := set_ahead xs10 z11 (by rw [X10.out]; decide); rwa [X10.out] at this)
  obtain ⟨xs11, hx⟩ : ∃ xs, Hid (xs = xs10 ++ [z11]) := ⟨_, Lib.hid rfl⟩
  have X11 : Hid (xs11.length = 11) := Lib.hid (by rw [hx.out, List.length_append, X10.out]; rfl)
  rw [← hx.out] at q2 S11'
  have Q11 := Lib.hid q2; clear q2 q
  have S11 := Lib.hid S11'; clear S11' hy hx Q10 S10 X10
  go_upto_region 13 with fail
  clear e2 f2
  generalize v11.setCell ⟨nb, 10, none⟩ (.int .i64 z11) = W11 at *
  go_wp2_with fail
  refine (rnumber9_any rp l a n c at11 bad11 W11 Q11.out.r).mono ?_
  rintro e v12 ⟨z12, at12, bad12, rfl, h2, h3, h4⟩
  have q := Q11.out.number h2 h3
  have S12' := S11.out.step h4
  clear h2 h3 h4
  have e2 : v12.cell? ⟨nb, 11, none⟩ = some (.int .i64 ((aheadN (mkN xs11 [] []))[11]?.getD 0)) := cell_of q.e _ _ (ahead_cell (mkN xs11 [] []) none 0 11 (by decide))
  have f2 := frozen_of q.e 11
  obtain ⟨y, hy⟩ : ∃ y, Hid (y = (aheadN (mkN xs11 [] []))[11]?.getD 0) := ⟨_, Lib.hid rfl⟩
  rw [← hy.out] at e2
  have q2 := q.set 11 (.int .i64 z12) (by have := set_ahead xs11 z12 (by rw [X11.out]; decide); rwa [X11.out] at this)
  obtain ⟨xs12, hx⟩ : ∃ xs, Hid (xs = xs11 ++ [z12]) := ⟨_, Lib.hid rfl⟩
  have X12 : Hid (xs12.length = 12) := Lib.hid (by rw [hx.out, List.length_append, X11.out]; rfl)
  rw [← hx.out] at q2 S12'
  have Q12 := Lib.hid q2; clear q2 q
  have S12 := Lib.hid S12'; clear S12' hy hx Q11 S11 X11
  go_upto_region 14 with fail
  clear e2 f2
  generalize v12.setCell ⟨nb, 11, none⟩ (.int .i64 z12) = W12 at *
  go_wp2_with fail
  refine (rnumber9_any rp l a n c at12 bad12 W12 Q12.out.r).mono ?_
  rintro e v13 ⟨z13, at13, bad13, rfl, h2, h3, h4⟩
  have q := Q12.out.number h2 h3
  have S13' := S12.out.step h4
  clear h2 h3 h4
  have e2 : v13.cell? ⟨nb, 12, none⟩ = some (.int .i64 ((aheadN (mkN xs12 [] []))[12]?.getD 0)) := cell_of q.e _ _ (ahead_cell (mkN xs12 [] []) none 0 12 (by decide))
  have f2 := frozen_of q.e 12
  obtain ⟨y, hy⟩ : ∃ y, Hid (y = (aheadN (mkN xs12 [] []))[12]?.getD 0) := ⟨_, Lib.hid rfl⟩
  rw [← hy.out] at e2
  have q2 := q.set 12 (.int .i64 z13) (by have := set_ahead xs12 z13 (by rw [X12.out]; decide); rwa [X12.out] at this)
  obtain ⟨xs13, hx⟩ : ∃ xs, Hid (xs = xs12 ++ [z13]) := ⟨_, Lib.hid rfl⟩
  have X13 : Hid (xs13.length = 13) := Lib.hid (by rw [hx.out, List.length_append, X12.out]; rfl)
  rw [← hx.out] at q2 S13'
  have Q13 := Lib.hid q2; clear q2 q
  have S13 := Lib.hid S13'; clear S13' hy hx Q12 S12 X12
  go_upto_region 15 with fail
  clear e2 f2
  generalize v13.setCell ⟨nb, 12, none⟩ (.int .i64 z13) = W13 at *
  go_wp2_with fail
  refine (rnumber9_any rp l a n c at13 bad13 W13 Q13.out.r).mono ?_
  rintro e v14 ⟨z14, at14, bad14, rfl, h2, h3, h4⟩
  have q := Q13.out.number h2 h3
  have S14' := S13.out.step h4
  clear h2 h3 h4
  have e2 : v14.cell? ⟨nb, 13, none⟩ = some (.int .i64 ((aheadN (mkN xs13 [] []))[13]?.getD 0)) := cell_of q.e _ _ (ahead_cell (mkN xs13 [] []) none 0 13 (by decide))
  have f2 := frozen_of q.e 13
  obtain ⟨y, hy⟩ : ∃ y, Hid (y = (aheadN (mkN xs13 [] []))[13]?.getD 0) := ⟨_, Lib.hid rfl⟩
  rw [← hy.out] at e2
  have q2 := q.set 13 (.int .i64 z14) (by have := set_ahead xs13 z14 (by rw [X13.out]; decide); rwa [X13.out] at this)
  obtain ⟨xs14, hx⟩ : ∃ xs, Hid (xs = xs13 ++ [z14]) := ⟨_, Lib.hid rfl⟩
  have X14 : Hid (xs14.length = 14) := Lib.hid (by rw [hx.out, List.length_append, X13.out]; rfl)
  rw [← hx.out] at q2 S14'
  have Q14 := Lib.hid q2; clear q2 q
  have S14 := Lib.hid S14'; clear S14' hy hx Q13 S13 X13
  go_upto_region 16 with fail
  clear e2 f2
  generalize v14.setCell ⟨nb, 13, none⟩ (.int .i64 z14) = W14 at *
  go_wp2_with fail
  refine (rnumber9_any rp l a n c at14 bad14 W14 Q14.out.r).mono ?_
  rintro e v15 ⟨z15, at15, bad15, rfl, h2, h3, h4⟩
  have q := Q14.out.number h2 h3
  have S15' := S14.out.step h4
  clear h2 h3 h4
  have e2 : v15.cell? ⟨nb, 14, none⟩ = some (.int .i64 ((aheadN (mkN xs14 [] []))[14]?.getD 0)) := cell_of q.e _ _ (ahead_cell (mkN xs14 [] []) none 0 14 (by decide))
  have f2 := frozen_of q.e 14
  obtain ⟨y, hy⟩ : ∃ y, Hid (y = (aheadN (mkN xs14 [] []))[14]?.getD 0) := ⟨_, Lib.hid rfl⟩
  rw [← hy.out] at e2
  have q2 := q.set 14 (.int .i64 z15) (by have := set_ahead xs14 z15 (by rw [X14.out]; decide); rwa [X14.out] at this)
  obtain ⟨xs15, hx⟩ : ∃ xs, Hid (xs = xs14 ++ [z15]) := ⟨_, Lib.hid rfl⟩
  have X15 : Hid (xs15.length = 15) := Lib.hid (by rw [hx.out, List.length_append, X14.out]; rfl)
  rw [← hx.out] at q2 S15'
  have Q15 := Lib.hid q2; clear q2 q
  have S15 := Lib.hid S15'; clear S15' hy hx Q14 S14 X14
  go_upto_region 17 with fail
  clear e2 f2
  generalize v15.setCell ⟨nb, 14, none⟩ (.int .i64 z15) = W15 at *
  go_wp2_with fail
  refine (rnumbers9_any rp l a n c at15 bad15 W15 Q15.out.r hl).mono ?_
  rintro e v16 ⟨ys, sa, sc, rfl, h1, at16, bad16, h2, h3, h4⟩
  have q := Q15.out.number h2 h3
  have S16 := Lib.hid (S15.out.nums h4)
  have hnw := (Array.getElem?_eq_some_iff.1 Q15.out.e).1
  obtain ⟨B, hB⟩ : ∃ B, Hid (W15.heap.size = B) := ⟨_, Lib.hid rfl⟩
  rw [hB.out] at h1 hnw
  have LB : Hid (nb < B ∧ rp < B ∧ p1 ≤ B) := Lib.hid (by have := Q15.out.lt; omega)
  have e2 : v16.cell? ⟨nb, 15, none⟩ = some (.slice none (mkN xs15 [] []).strokes.length 0) := cell_of q.e 15 _ rfl
  have f2 := frozen_of q.e 15
  have q2 := q.set 15 (.slice sa ys.length sc) (set_strokes xs15 [] ys none sa 0 sc ys.length rfl)
  have HO := Lib.hid (own_same h1 (same_at v16 nb 15 (.slice sa ys.length sc)) (fun b cur fr hb => .inr (by rw [show b = nb from hb]; exact hnw)))
  have Q16 := Lib.hid q2
  clear h1 h2 h3 h4 q q2 Q15 S15 hnw
  go_upto_region 18 with fail
  clear e2 f2
  generalize v16.setCell ⟨nb, 15, none⟩ (.slice sa ys.length sc) = W16 at *
  have X16 : Hid (([] : List Int).length = 0) := Lib.hid rfl
  go_wp2_with fail
  refine (rnumber9_any rp l a n c at16 bad16 W16 Q16.out.r).mono ?_
  rintro e v17 ⟨z17, at17, bad17, rfl, h2, h3, h4⟩
  have q := Q16.out.number h2 h3
  have S17' := S16.out.step (by decide) h4
  have O1 := own_same HO.out h3 (fun b cur fr hb => .inr (by rw [show b = rp from hb]; exact LB.out.2.1))
  clear h2 h3 h4
  have e2 : v17.cell? ⟨nb, 16, none⟩ = some (.int .i64 ((behindN (mkN xs15 ys []))[0]?.getD 0)) := cell_of q.e _ _ (behind_cell (mkN xs15 ys []) sa sc 0 (by decide))
  have f2 := frozen_of q.e 16
  obtain ⟨y, hy⟩ : ∃ y, Hid (y = (behindN (mkN xs15 ys []))[0]?.getD 0) := ⟨_, Lib.hid rfl⟩
  rw [← hy.out] at e2
  have q2 := q.set 16 (.int .i64 z17) (by have := set_behind xs15 ys sa sc [] z17 (by rw [X16.out]; decide); rwa [X16.out] at this)
  obtain ⟨zs1, hx⟩ : ∃ zs, Hid (zs = [] ++ [z17]) := ⟨_, Lib.hid rfl⟩
  have X17 : Hid (zs1.length = 1) := Lib.hid (by rw [hx.out, List.length_append, X16.out]; rfl)
  rw [← hx.out] at q2 S17'
  have O2 := own_same O1 (same_at v17 nb 16 (.int .i64 z17)) (fun b cur fr hb => .inr (by rw [show b = nb from hb]; exact LB.out.1))
  clear HO O1
  have HO := Lib.hid O2; clear O2
  have Q17 := Lib.hid q2; clear q2 q
  have S17 := Lib.hid S17'; clear S17' hy hx Q16 S16 X16
  go_upto_region 19 with fail
  clear e2 f2
  generalize v17.setCell ⟨nb, 16, none⟩ (.int .i64 z17) = W17 at *
  go_wp2_with fail
  refine (rnumber9_any rp l a n c at17 bad17 W17 Q17.out.r).mono ?_
  rintro e v18 ⟨z18, at18, bad18, rfl, h2, h3, h4⟩
  have q := Q17.out.number h2 h3
  have S18' := S17.out.step (by decide) h4
  have O1 := own_same HO.out h3 (fun b cur fr hb => .inr (by rw [show b = rp from hb]; exact LB.out.2.1))
  clear h2 h3 h4
  have e2 : v18.cell? ⟨nb, 17, none⟩ = some (.int .i64 ((behindN (mkN xs15 ys zs1))[1]?.getD 0)) := cell_of q.e _ _ (behind_cell (mkN xs15 ys zs1) sa sc 1 (by decide))
  have f2 := frozen_of q.e 17
  obtain ⟨y, hy⟩ : ∃ y, Hid (y = (behindN (mkN xs15 ys zs1))[1]?.getD 0) := ⟨_, Lib.hid rfl⟩
  rw [← hy.out] at e2
  have q2 := q.set 17 (.int .i64 z18) (by have := set_behind xs15 ys sa sc zs1 z18 (by rw [X17.out]; decide); rwa [X17.out] at this)
  obtain ⟨zs2, hx⟩ : ∃ zs, Hid (zs = zs1 ++ [z18]) := ⟨_, Lib.hid rfl⟩
  have X18 : Hid (zs2.length = 2) := Lib.hid (by rw [hx.out, List.length_append, X17.out]; rfl)
  rw [← hx.out] at q2 S18'
  have O2 := own_same O1 (same_at v18 nb 17 (.int .i64 z18)) (fun b cur fr hb => .inr (by rw [show b = nb from hb]; exact LB.out.1))
  clear HO O1
  have HO := Lib.hid O2; clear O2
  have Q18 := Lib.hid q2; clear q2 q
  have S18 := Lib.hid S18'; clear S18' hy hx Q17 S17 X17
  go_upto_region 20 with fail
  clear e2 f2
  generalize v18.setCell ⟨nb, 17, none⟩ (.int .i64 z18) = W18 at *
  go_wp2_with fail
  refine (rnumber9_any rp l a n c at18 bad18 W18 Q18.out.r).mono ?_
  rintro e v19 ⟨z19, at19, bad19, rfl, h2, h3, h4⟩
  have q := Q18.out.number h2 h3
  have S19' := S18.out.step (by decide) h4
  have O1 := own_same HO.out h3 (fun b cur fr hb => .inr (by rw [show b = rp from hb]; exact LB.out.2.1))
  clear h2 h3 h4
  have e2 : v19.cell? ⟨nb, 18, none⟩ = some (.int .i64 ((behindN (mkN xs15 ys zs2))[2]?.getD 0)) := cell_of q.e _ _ (behind_cell (mkN xs15 ys zs2) sa sc 2 (by decide))
  have f2 := frozen_of q.e 18
  obtain ⟨y, hy⟩ : ∃ y, Hid (y = (behindN (mkN xs15 ys zs2))[2]?.getD 0) := ⟨_, Lib.hid rfl⟩
  rw [← hy.out] at e2
  have q2 := q.set 18 (.int .i64 z19) (by have := set_behind xs15 ys sa sc zs2 z19 (by rw [X18.out]; decide); rwa [X18.out] at this)
  obtain ⟨zs3, hx⟩ : ∃ zs, Hid (zs = zs2 ++ [z19]) := ⟨_, Lib.hid rfl⟩
  have X19 : Hid (zs3.length = 3) := Lib.hid (by rw [hx.out, List.length_append, X18.out]; rfl)
  rw [← hx.out] at q2 S19'
  have O2 := own_same O1 (same_at v19 nb 18 (.int .i64 z19)) (fun b cur fr hb => .inr (by rw [show b = nb from hb]; exact LB.out.1))
  clear HO O1
  have HO := Lib.hid O2; clear O2
  have Q19 := Lib.hid q2; clear q2 q
  have S19 := Lib.hid S19'; clear S19' hy hx Q18 S18 X18
  go_upto_region 21 with fail
  clear e2 f2
  generalize v19.setCell ⟨nb, 18, none⟩ (.int .i64 z19) = W19 at *
  have HF := Lib.hid S19.out.fin
  obtain ⟨N, hN⟩ : ∃ N, Hid (mkN xs15 ys zs3 = N) := ⟨_, Lib.hid rfl⟩
  have hNs : Hid (N.strokes = ys) := Lib.hid (by rw [← hN.out]; rfl)
  rw [hN.out] at Q19 HF
  have one1 := noteA_one N sa sc
  go_wp2_with (first
    | (refine wpList_load_row rfl 43 _ rfl nb rfl 43 (noteA N sa sc) (0, 0) _ Q19.out.e Try.underlying43 rfl (I43.out _ _ _) ?_)
    | (refine wpList_store_rowN rfl 43 _ _ rfl p1 (noteA zeroN none 0) (noteA N sa sc) 43 rfl rfl Q19.out.e1 (I43.out _ _ _) rfl one1 ?_))
  refine bodyPost_ret (results_cell_row rfl _ _ p1 43 (noteA N sa sc) (0, 0) _ rfl ?hg Try.underlying43 rfl (I43.out _ _ _)) rfl ?_
  case hg => exact setRow_heap W19 p1 _ _ _ _ Q19.out.e1
  have hSR : Same (fun k => k = p1) W19 (W19.setRow p1 (noteA N sa sc)) := ⟨rfl, rfl, rfl, by simp, fun k hk hs => setRow_other W19 p1 k _ hs⟩
  have hO := own_same HO.out hSR (fun b cur fr hb => .inr (by rw [show b = p1 from hb]; exact Nat.lt_of_lt_of_le Q19.out.lt.2 (Nat.le_of_lt LB.out.1)))
  have hS := Q19.out.s.trans (same_imp hSR (S' := fun k => k = rp ∨ p1 ≤ k) fun k e => .inr (by rw [e]; omega))
  refine ⟨N, sa, sc, rfl, ?_, at19, bad19, ?_, ?_, HF.out⟩
  · rw [hNs.out]; exact own_mono hO (by rw [HP1.out]; exact LB.out.2.2)
  · exact Q19.out.r.same hSR (by have := Q19.out.lt; omega) (fun h0 b off e => by have := Q19.out.o h0 b off e; omega)
  · exact ⟨hS.os, hS.tape, hS.output, hS.size, fun k hk hr => hS.block k hk (by have h1 := HP1.out; have h2 : ¬ k = rp := hr; omega)⟩
end
end Go.Proofs.Ytpjiakgfegnmcaa
