/- The program's Decode. -/
import Derived.Test.YtpjiakgfegnmcaaDec5
import Derived.Test.YtpjiakgfegnmcaaRh7
namespace Go.Proofs.Ytpjiakgfegnmcaa
open Go.RowKit
theorem noteP_len {l t : List UInt8} {m : NoteV} (h : noteF numP l = some (m, t)) : m.strokes.length ≤ l.length := by
  cases e1 : many numP 15 l with
  | none => rw [noteF_1 e1] at h; cases h
  | some p =>
    obtain ⟨x, t0⟩ := p
    cases e2 : lenF numP t0 with
    | none => rw [noteF_2 e1 e2] at h; cases h
    | some p =>
      obtain ⟨k, t1⟩ := p
      rw [noteF_3 e1 e2] at h
      have hk : k ≤ t1.length := by
        unfold lenF at e2
        split at e2
        · split at e2
          · simp only [Option.some.injEq, Prod.mk.injEq] at e2
            obtain ⟨rfl, rfl⟩ := e2
            omega
          · cases e2
        · cases e2
      have h2 := lenP_len e2
      have h3 := manyP_len _ e1
      split at h
      · rename_i y t2 e3
        split at h
        · simp only [Option.some.injEq, Prod.mk.injEq] at h
          have := many_len _ _ _ _ e3
          rw [← h.1, show (mkN x y _).strokes = y from rfl]
          omega
        · cases h
      · cases h
/-- What the program's Decode accepts. -/
def decP9 (f : FrV) (l : List UInt8) : Option NoteV := match noteF numP l with
  | some (m, _) => if checkN f m = 0 ∧ encN m = l then some m else none
  | none => none
/-- The blocks of Decode: the frame, the result (made as zero), and one more note (its cells are C). -/
structure LocD (w W : World) (p0 p1 p2 : Nat) (f : FrV) (C : Array Value) : Prop where
  e0 : W.heap[p0]? = some (.cells #[.int .i64 f.rings, .int .i64 f.sectors, .int .i64 f.wide] 61 (0, 0))
  e1 : W.heap[p1]? = some (.cells (noteA zeroN none 0) 43 (0, 0))
  e2 : W.heap[p2]? = some (.cells C 43 (0, 0))
  b : Below p0 w W
  lt : p0 < p1 ∧ p1 < p2
theorem LocD.below {w W W' : World} {p0 p1 p2 : Nat} {f : FrV} {C : Array Value} (h : LocD w W p0 p1 p2 f C) (hb : Below W.heap.size W W') : LocD w W' p0 p1 p2 f C := by
  have g : ∀ {k : Nat} {o : Obj}, W.heap[k]? = some o → W'.heap[k]? = some o := fun {k o} hk => (hb.block k (Array.getElem?_eq_some_iff.1 hk).1).trans hk
  have h0 := (Array.getElem?_eq_some_iff.1 h.e0).1
  exact ⟨g h.e0, g h.e1, g h.e2, h.b.trans (hb.mono (by omega)), h.lt⟩
theorem LocD.done {w W : World} {p0 p1 p2 : Nat} {f : FrV} {C : Array Value} (h : LocD w W p0 p1 p2 f C) (C' : Array Value) : (W.setRow p1 C').heap[p1]? = some (.cells C' 43 (0, 0)) ∧ Below p0 w (W.setRow p1 C') := by
  have hl := h.lt
  exact ⟨setRow_heap W p1 _ C' _ _ h.e1, h.b.trans ⟨rfl, rfl, rfl, by simp, fun k hk => setRow_other W p1 k C' (by omega)⟩⟩
section
attribute [local go_sem] noteA_0
set_option maxHeartbeats 4000000 in
set_option maxRecDepth 100000 in
theorem decode_any (f : FrV) (l : List UInt8) (a : Option Addr) (n c : Nat) (w : World) (h : RdB w a n c l) (hl : l.length ≤ 1000000) :
    Calls Try.prog 30 #[f.val, .slice a n c] w fun e w' => (∃ (m : NoteV) (sa : Option Addr) (sc : Nat), decP9 f l = some m ∧ e = .returned (.tuple #[.agg (noteA m sa sc), .int .i64 0]) ∧ RdI w' sa m.strokes.length sc m.strokes ∧ Below w.heap.size w w') ∨
      (decP9 f l = none ∧ e = .returned (.tuple #[.agg (noteA zeroN none 0), .int .i64 90]) ∧ Below w.heap.size w w') := by
  have I43 := Lib.hid (show ∀ (m : NoteV) (a : Option Addr) (c : Nat), (Try.prog.info? 43).map (·.size) = some (noteA m a c).size from fun m a c => by kernel_rfl)
  have hmf : ∀ (fn : Fn) (first cap : Array Value) (w : World), (Instr.makeFunc fn first cap).run Try.prog w = .ok (.func fn first cap) w := fun _ _ _ _ => rfl
  unfold FrV.val
  go_enter Try.func30, Try.ntmps30
  go_wp2_with fail
  rw [← noteA_zero]
  have oneZ := noteA_one zeroN none 0
  have g0 := heap_before _ (.cells (noteA zeroN none 0) 43) _ _ (heap_before _ (.cells (noteA zeroN none 0) 43) _ _ (heap_last w (.cells #[.int .i64 f.rings, .int .i64 f.sectors, .int .i64 f.wide] 61)))
  have g1 := heap_before _ (.cells (noteA zeroN none 0) 43) _ _ (heap_at (w.alloc (.cells #[.int .i64 f.rings, .int .i64 f.sectors, .int .i64 f.wide] 61)) (.cells (noteA zeroN none 0) 43) (w.heap.size + 1) (by simp))
  have g2 := heap_at ((w.alloc (.cells #[.int .i64 f.rings, .int .i64 f.sectors, .int .i64 f.wide] 61)).alloc (.cells (noteA zeroN none 0) 43)) (.cells (noteA zeroN none 0) 43) (w.heap.size + 1 + 1) (by simp)
  have bb : Below w.heap.size w (((w.alloc (.cells #[.int .i64 f.rings, .int .i64 f.sectors, .int .i64 f.wide] 61)).alloc (.cells (noteA zeroN none 0) 43)).alloc (.cells (noteA zeroN none 0) 43)) := (((Below.refl _ _).alloc (Nat.le_refl _) _).alloc (by simp) _).alloc (by simp; omega) _
  have L0 : Hid (LocD w (((w.alloc (.cells #[.int .i64 f.rings, .int .i64 f.sectors, .int .i64 f.wide] 61)).alloc (.cells (noteA zeroN none 0) 43)).alloc (.cells (noteA zeroN none 0) 43)) w.heap.size (w.heap.size + 1) (w.heap.size + 1 + 1) f (noteA zeroN none 0)) := Lib.hid ⟨g0, g1, g2, bb, by omega⟩
  clear g0 g1 g2 bb
  generalize ((w.alloc (.cells #[.int .i64 f.rings, .int .i64 f.sectors, .int .i64 f.wide] 61)).alloc (.cells (noteA zeroN none 0) 43)).alloc (.cells (noteA zeroN none 0) 43) = W3 at *
  generalize hp0 : w.heap.size = p0 at *
  generalize hp1 : p0 + 1 = p1 at *
  generalize hp2 : p1 + 1 = p2 at *
  have RB := Lib.hid (show ∀ W', Below p0 w W' → RdB W' a n c l from fun W' hb => h.below (by rw [hp0]; exact hb))
  have HP0 := Lib.hid hp0; clear hp0 hp1 hp2
  refine (reading_any p2 l a n c W3 (RB.out _ L0.out.b) hl L0.out.e2).mono ?_
  rintro e w4 (⟨m, t, sa, sc, h1, rfl, h2, h3, h4⟩ | ⟨h1, rfl, h4⟩)
  · have oneM := noteA_one m sa sc
    have hz2 := (Array.getElem?_eq_some_iff.1 L0.out.e2).1
    have P1 : Hid (p1 < W3.heap.size) := Lib.hid (Nat.lt_trans L0.out.lt.2 hz2)
    have L1 : Hid (LocD w w4 p0 p1 p2 f (noteA m sa sc)) := Lib.hid ⟨(h4.block p0 (by have := L0.out.lt; omega) (by have := L0.out.lt; omega)).trans L0.out.e0, (h4.block p1 (by have := L0.out.lt; omega) (by have := L0.out.lt; omega)).trans L0.out.e1, h2, h4.below L0.out.b (by have := L0.out.lt; omega) (fun k e => by have := L0.out.lt; rw [show k = p2 from e]; omega), L0.out.lt⟩
    have HO := Lib.hid h3; clear h3
    have HM := Lib.hid h1; clear h1 h2 h4 hz2
    have HLN := Lib.hid (Nat.le_trans (noteP_len HM.out) hl)
    have c0 := cell_of L1.out.e0 0 _ rfl
    have c1 := cell_of L1.out.e0 1 _ rfl
    have c2 := cell_of L1.out.e0 2 _ rfl
    go_wp2_with   (first
        | (refine wpList_load_row rfl 43 _ rfl p2 rfl 43 (noteA m sa sc) (0, 0) _ L1.out.e2 Try.underlying43 rfl (I43.out _ _ _) ?_)
        | (refine wpList_load_rowG ?hw 43 _ rfl p2 rfl 43 (noteA m sa sc) (0, 0) _ L1.out.e2 Try.underlying43 rfl (I43.out _ _ _) ?_; case hw => rfl))
    refine (checkNote_any f m sa sc _ (RdA.of_own HO.out)).mono ?_
    rintro e w5 ⟨rfl, b5⟩
    have L2 := Lib.hid (L1.out.below b5)
    have HO2 := Lib.hid (own_below HO.out b5)
    clear b5 c0 c1 c2
    by_cases hc : checkN f m = 0
    · have hq : (checkN f m != 0) = false := by simp [hc]
      have HC := Lib.hid hc; clear hc
      have HSM := Lib.hid (small_of HC.out)
      go_wp2_with   (first
          | (refine wpList_load_row rfl 43 _ rfl p2 rfl 43 (noteA m sa sc) (0, 0) _ L2.out.e2 Try.underlying43 rfl (I43.out _ _ _) ?_)
          | (refine wpList_load_rowG ?hw 43 _ rfl p2 rfl 43 (noteA m sa sc) (0, 0) _ L2.out.e2 Try.underlying43 rfl (I43.out _ _ _) ?_; case hw => rfl))
      refine (encoded_any m sa sc _ (RdA.of_own HO2.out) HSM.out HLN.out).mono ?_
      rintro e w6 ⟨a', c', rfl, h6, b6⟩
      have L3 := Lib.hid (L2.out.below b6)
      have HO3 := Lib.hid (own_below HO2.out b6)
      have H6 := Lib.hid h6; clear h6 b6
      go_wp2_with fail
      refine (equal_any _ _ _ (encN m) _ _ _ l _ (RdB.of_own H6.out) (RB.out _ L3.out.b)).mono ?_
      rintro e w7 ⟨r, rfl, hr, q, rfl⟩
      have L4 := Lib.hid (L3.out.below (below_drewN (Below.refl _ _) q))
      have HO4 := Lib.hid (own_below HO3.out (below_drewN (Below.refl _ _) q))
      generalize w6.drewN q = w7 at *
      cases r with
      | false =>
        have HR := Lib.hid (show decP9 f l = none by unfold decP9; rw [HM.out]; simp only; rw [if_neg (fun e => by have := hr.2 e.2; cases this)])
        clear hr
        go_wp2_with (refine wpList_store_rowN rfl 43 _ _ rfl p1 (noteA zeroN none 0) (noteA zeroN none 0) 43 rfl rfl L4.out.e1 (I43.out _ _ _) rfl oneZ ?_)
        refine bodyPost_ret (results_cell_row_tmp rfl _ _ p1 43 (noteA zeroN none 0) (0, 0) _ rfl (L4.out.done _).1 Try.underlying43 rfl (I43.out _ _ _)) rfl ?_
        exact .inr ⟨HR.out, rfl, by rw [HP0.out]; exact (L4.out.done _).2⟩
      | true =>
        have HR := Lib.hid (show decP9 f l = some m by unfold decP9; rw [HM.out]; simp only; rw [if_pos ⟨HC.out, hr.1 rfl⟩])
        clear hr
        go_wp2_with (first
          | (refine wpList_load_row rfl 43 _ rfl p2 rfl 43 (noteA m sa sc) (0, 0) _ L4.out.e2 Try.underlying43 rfl (I43.out _ _ _) ?_)
          | (refine wpList_store_rowN rfl 43 _ _ rfl p1 (noteA zeroN none 0) (noteA m sa sc) 43 rfl rfl L4.out.e1 (I43.out _ _ _) rfl oneM ?_))
        refine bodyPost_ret (results_cell_row_tmp rfl _ _ p1 43 (noteA m sa sc) (0, 0) _ rfl (L4.out.done _).1 Try.underlying43 rfl (I43.out _ _ _)) rfl ?_
        have hO := own_same (S := fun k => k = p1) HO4.out (W' := World.setRow _ p1 (noteA m sa sc)) ⟨rfl, rfl, rfl, by simp, fun k hk hs => setRow_other _ p1 k _ hs⟩ (fun b cur fr hb => .inr (by rw [show b = p1 from hb]; exact P1.out))
        exact .inl ⟨m, sa, sc, HR.out, rfl, RdA.of_own hO, by rw [HP0.out]; exact (L4.out.done _).2⟩
    · have hq : (checkN f m != 0) = true := by simp [hc]
      have HR := Lib.hid (show decP9 f l = none by unfold decP9; rw [HM.out]; simp only; rw [if_neg (fun e => hc e.1)])
      clear hc
      go_wp2_with (refine wpList_store_rowN rfl 43 _ _ rfl p1 (noteA zeroN none 0) (noteA zeroN none 0) 43 rfl rfl L2.out.e1 (I43.out _ _ _) rfl oneZ ?_)
      refine bodyPost_ret (results_cell_row_tmp rfl _ _ p1 43 (noteA zeroN none 0) (0, 0) _ rfl (L2.out.done _).1 Try.underlying43 rfl (I43.out _ _ _)) rfl ?_
      exact .inr ⟨HR.out, rfl, by rw [HP0.out]; exact (L2.out.done _).2⟩
  · have HR := Lib.hid (show decP9 f l = none by unfold decP9; rw [h1])
    have hz2 := (Array.getElem?_eq_some_iff.1 L0.out.e2).1
    have k0 := (h4.block p0 (by have := L0.out.lt; omega) (by have := L0.out.lt; omega)).trans L0.out.e0
    have k1 := Lib.hid ((h4.block p1 (by have := L0.out.lt; omega) (by have := L0.out.lt; omega)).trans L0.out.e1)
    have kb := Lib.hid (h4.below L0.out.b (by have := L0.out.lt; omega) (fun k e => by have := L0.out.lt; rw [show k = p2 from e]; omega))
    have kl := Lib.hid L0.out.lt
    clear h1 h4 hz2 k0
    go_wp2_with (refine wpList_store_rowN rfl 43 _ _ rfl p1 (noteA zeroN none 0) (noteA zeroN none 0) 43 rfl rfl k1.out (I43.out _ _ _) rfl oneZ ?_)
    refine bodyPost_ret (results_cell_row_tmp rfl _ _ p1 43 (noteA zeroN none 0) (0, 0) _ rfl (setRow_heap w4 p1 _ _ _ _ k1.out) Try.underlying43 rfl (I43.out _ _ _)) rfl ?_
    exact .inr ⟨HR.out, rfl, by rw [HP0.out]; exact kb.out.trans ⟨rfl, rfl, rfl, by simp, fun k hk => setRow_other _ p1 k _ (by have := kl.out; omega)⟩⟩
end
end Go.Proofs.Ytpjiakgfegnmcaa
