/- The reference's Decode. -/
import Derived.Test.YtpjiakgfegnmcaaRd3
import Derived.Test.YtpjiakgfegnmcaaDec6
namespace Go.Proofs.Ytpjiakgfegnmcaa
open Go.RowKit
theorem noteR_len {l t : List UInt8} {m : NoteV} (h : noteF numR l = some (m, t)) : m.strokes.length ≤ l.length := by
  obtain ⟨e, _⟩ := noteR_enc h
  have h1 := encL_pos m.strokes
  rw [e]
  unfold encN
  simp only [List.length_append]
  omega
/-- What the reference's Decode accepts. -/
def decR9 (f : FrV) (l : List UInt8) : Option NoteV := match noteF numR l with
  | some (m, t) => if t = [] ∧ checkN f m = 0 then some m else none
  | none => none
section
attribute [local go_sem] noteA_0
set_option maxHeartbeats 4000000 in
set_option maxRecDepth 100000 in
theorem rdecode_any (f : FrV) (l : List UInt8) (a : Option Addr) (n c : Nat) (w : World) (h : RdB w a n c l) (hl : l.length ≤ 1000000) :
    Calls Try.prog 32 #[f.val, .slice a n c] w fun e w' => (∃ (m : NoteV) (sa : Option Addr) (sc : Nat), decR9 f l = some m ∧ e = .returned (.tuple #[.agg (noteA m sa sc), .int .i64 0]) ∧ RdI w' sa m.strokes.length sc m.strokes ∧ Below w.heap.size w w') ∨
      (decR9 f l = none ∧ e = .returned (.tuple #[.agg (noteA zeroN none 0), .int .i64 90]) ∧ Below w.heap.size w w') := by
  have I43 := Lib.hid (show ∀ (m : NoteV) (a : Option Addr) (c : Nat), (Try.prog.info? 43).map (·.size) = some (noteA m a c).size from fun m a c => by kernel_rfl)
  have oneZ := noteA_one zeroN none 0
  have hn63 := h.maxn
  have HLE := Lib.hid (show l.length = n by have := h.1; simpa using this)
  have g0 := heap_before _ (.cells #[.slice a n c, .int .i64 0, .bool false] 112) _ _ (heap_before _ (.cells (noteA zeroN none 0) 43) _ _ (heap_last w (.cells #[.int .i64 f.rings, .int .i64 f.sectors, .int .i64 f.wide] 61)))
  have g1 := heap_before _ (.cells #[.slice a n c, .int .i64 0, .bool false] 112) _ _ (heap_at (w.alloc (.cells #[.int .i64 f.rings, .int .i64 f.sectors, .int .i64 f.wide] 61)) (.cells (noteA zeroN none 0) 43) (w.heap.size + 1) (by simp))
  have g2 := heap_at ((w.alloc (.cells #[.int .i64 f.rings, .int .i64 f.sectors, .int .i64 f.wide] 61)).alloc (.cells (noteA zeroN none 0) 43)) (.cells #[.slice a n c, .int .i64 0, .bool false] 112) (w.heap.size + 1 + 1) (by simp)
  have bb : Below w.heap.size w (((w.alloc (.cells #[.int .i64 f.rings, .int .i64 f.sectors, .int .i64 f.wide] 61)).alloc (.cells (noteA zeroN none 0) 43)).alloc (.cells #[.slice a n c, .int .i64 0, .bool false] 112)) := (((Below.refl _ _).alloc (Nat.le_refl _) _).alloc (by simp) _).alloc (by simp; omega) _
  have G0 := Lib.hid g0; clear g0
  have G1 := Lib.hid g1; clear g1
  have G2 := Lib.hid g2; clear g2
  have BB := Lib.hid bb; clear bb
  unfold FrV.val
  go_enter Try.func32, Try.ntmps32
  go_upto_region 2 with fail
  simp only [← noteA_zero]
  generalize ((w.alloc (.cells #[.int .i64 f.rings, .int .i64 f.sectors, .int .i64 f.wide] 61)).alloc (.cells (noteA zeroN none 0) 43)).alloc (.cells #[.slice a n c, .int .i64 0, .bool false] 112) = W3 at *
  generalize hp0 : w.heap.size = p0 at *
  generalize hp1 : p0 + 1 = p1 at *
  generalize hrp : p1 + 1 = rp at *
  have RB := Lib.hid (show ∀ W', Below p0 w W' → RdB W' a n c l from fun W' hb => h.below (by rw [hp0]; exact hb))
  have LT : Hid (p0 < p1 ∧ p1 < rp) := Lib.hid (by omega)
  have HP0 := Lib.hid hp0; clear hp0 hp1 hrp
  go_wp2_with fail
  refine (rnote_any rp l a n c W3 ⟨G2.out, RB.out _ BB.out, Nat.zero_le _⟩ hl).mono ?_
  rintro e w4 ⟨m, sa, sc, rfl, h1, at', bad', h2, h3, h4⟩
  have oneM := noteA_one m sa sc
  have hz2 := (Array.getElem?_eq_some_iff.1 G2.out).1
  have P1 : Hid (p1 < W3.heap.size) := Lib.hid (Nat.lt_trans LT.out.2 hz2)
  obtain ⟨p2, hp2⟩ : ∃ p2, Hid (w4.heap.size = p2) := ⟨_, Lib.hid rfl⟩
  have hrp2 : rp < p2 := by rw [← hp2.out]; exact Nat.lt_of_lt_of_le hz2 h3.size
  have hb5 : Below w4.heap.size w4 (w4.alloc (.cells (noteA m sa sc) 43)) := (Below.refl _ _).alloc (Nat.le_refl _) _
  have e0 := (h3.block p0 (by have := LT.out; omega) (by have := LT.out; omega)).trans G0.out
  have e1 := (h3.block p1 (by have := LT.out; omega) (by have := LT.out; omega)).trans G1.out
  have L1 : Hid (LocD w (w4.alloc (.cells (noteA m sa sc) 43)) p0 p1 p2 f (noteA m sa sc)) := Lib.hid ⟨heap_before _ _ _ _ e0, heap_before _ _ _ _ e1, by rw [← hp2.out]; exact heap_last _ _, (h3.below BB.out (by have := LT.out; omega) (fun k e => by have := LT.out; rw [show k = rp from e]; omega)).trans (hb5.mono (by rw [hp2.out]; have := LT.out; omega)), by have := LT.out; omega⟩
  have HQ := Lib.hid (h2.same (S := fun _ => False) (Same.of_below hb5) id (fun _ _ _ _ => id))
  have HO := Lib.hid (own_below h1 hb5)
  have H4 := Lib.hid h4
  clear h1 h2 h3 h4 e0 e1 hb5 hz2
  go_upto_region 3 with (refine wpList_store_newp w4 rfl 43 _ _ rfl w4.heap.size rfl _ (noteA m sa sc) rfl rfl (I43.out _ _ _) rfl oneM ?_)
  generalize w4.alloc (.cells (noteA m sa sc) 43) = w5 at *
  rw [hp2.out]
  have k0 := HQ.out.c0
  have k1 := HQ.out.c1
  have k2 := HQ.out.c2
  have hle := HQ.out.le
  rw [HLE.out] at hle
  cases bad' with
  | true =>
    have HR := Lib.hid (show decR9 f l = none by
      rcases H4.out with ⟨e, _⟩ | ⟨_, e⟩
      · cases e
      · unfold decR9; rw [e])
    go_wp2_with (refine wpList_store_rowN rfl 43 _ _ rfl p1 (noteA zeroN none 0) (noteA zeroN none 0) 43 rfl rfl L1.out.e1 (I43.out _ _ _) rfl oneZ ?_)
    refine bodyPost_ret (results_cell_row_tmp rfl _ _ p1 43 (noteA zeroN none 0) (0, 0) _ rfl (L1.out.done _).1 Try.underlying43 rfl (I43.out _ _ _)) rfl ?_
    exact .inr ⟨HR.out, rfl, by rw [HP0.out]; exact (L1.out.done _).2⟩
  | false =>
    have HM : Hid (noteF numR l = some (m, l.drop at')) := Lib.hid (by
      rcases H4.out with ⟨_, e⟩ | ⟨e, _⟩
      · exact e
      · cases e)
    clear H4
    by_cases hat : at' = n
    · have hat1 : ((at' : Int) != (n : Int)) = false := by simp; omega
      have HAT := Lib.hid hat; clear hat
      have HLN := Lib.hid (Nat.le_trans (noteR_len HM.out) hl)
      have c0 := cell_of L1.out.e0 0 _ rfl
      have c1 := cell_of L1.out.e0 1 _ rfl
      have c2 := cell_of L1.out.e0 2 _ rfl
      go_wp2_with         (first
          | (refine wpList_load_row rfl 43 _ rfl p2 rfl 43 (noteA m sa sc) (0, 0) _ L1.out.e2 Try.underlying43 rfl (I43.out _ _ _) ?_)
          | (refine wpList_load_rowG ?hw 43 _ rfl p2 rfl 43 (noteA m sa sc) (0, 0) _ L1.out.e2 Try.underlying43 rfl (I43.out _ _ _) ?_; case hw => rfl))
      refine (rcheckNote_any f m sa sc _ (RdA.of_own HO.out)).mono ?_
      rintro e w6 ⟨rfl, b6⟩
      have L2 := Lib.hid (L1.out.below b6)
      have HO2 := Lib.hid (own_below HO.out b6)
      clear b6 c0 c1 c2 k0 k1 k2
      by_cases hc : checkN f m = 0
      · have hq : (checkN f m != 0) = false := by simp [hc]
        have HR := Lib.hid (show decR9 f l = some m by unfold decR9; rw [HM.out]; simp only; rw [if_pos ⟨List.drop_eq_nil_of_le (by rw [HLE.out, HAT.out]; exact Nat.le_refl _), hc⟩])
        clear hc
        go_wp2_with (first
          | (refine wpList_load_row rfl 43 _ rfl p2 rfl 43 (noteA m sa sc) (0, 0) _ L2.out.e2 Try.underlying43 rfl (I43.out _ _ _) ?_)
          | (refine wpList_store_rowN rfl 43 _ _ rfl p1 (noteA zeroN none 0) (noteA m sa sc) 43 rfl rfl L2.out.e1 (I43.out _ _ _) rfl oneM ?_))
        refine bodyPost_ret (results_cell_row_tmp rfl _ _ p1 43 (noteA m sa sc) (0, 0) _ rfl (L2.out.done _).1 Try.underlying43 rfl (I43.out _ _ _)) rfl ?_
        have hO := own_same (S := fun k => k = p1) HO2.out (W' := World.setRow _ p1 (noteA m sa sc)) ⟨rfl, rfl, rfl, by simp, fun k hk hs => setRow_other _ p1 k _ hs⟩ (fun b cur fr hb => .inr (by rw [show b = p1 from hb]; exact P1.out))
        exact .inl ⟨m, sa, sc, HR.out, rfl, RdA.of_own hO, by rw [HP0.out]; exact (L2.out.done _).2⟩
      · have hq : (checkN f m != 0) = true := by simp [hc]
        have HR := Lib.hid (show decR9 f l = none by unfold decR9; rw [HM.out]; simp only; rw [if_neg (fun e => hc e.2)])
        clear hc
        go_wp2_with (refine wpList_store_rowN rfl 43 _ _ rfl p1 (noteA zeroN none 0) (noteA zeroN none 0) 43 rfl rfl L2.out.e1 (I43.out _ _ _) rfl oneZ ?_)
        refine bodyPost_ret (results_cell_row_tmp rfl _ _ p1 43 (noteA zeroN none 0) (0, 0) _ rfl (L2.out.done _).1 Try.underlying43 rfl (I43.out _ _ _)) rfl ?_
        exact .inr ⟨HR.out, rfl, by rw [HP0.out]; exact (L2.out.done _).2⟩
    · have hat1 : ((at' : Int) != (n : Int)) = true := by simp; omega
      have HR := Lib.hid (show decR9 f l = none by
        unfold decR9; rw [HM.out]; simp only
        rw [if_neg (fun e => by
          have h1 := congrArg List.length e.1
          rw [List.length_drop, HLE.out, List.length_nil] at h1
          omega)])
      clear hat
      go_wp2_with (refine wpList_store_rowN rfl 43 _ _ rfl p1 (noteA zeroN none 0) (noteA zeroN none 0) 43 rfl rfl L1.out.e1 (I43.out _ _ _) rfl oneZ ?_)
      refine bodyPost_ret (results_cell_row_tmp rfl _ _ p1 43 (noteA zeroN none 0) (0, 0) _ rfl (L1.out.done _).1 Try.underlying43 rfl (I43.out _ _ _)) rfl ?_
      exact .inr ⟨HR.out, rfl, by rw [HP0.out]; exact (L1.out.done _).2⟩
end
end Go.Proofs.Ytpjiakgfegnmcaa
