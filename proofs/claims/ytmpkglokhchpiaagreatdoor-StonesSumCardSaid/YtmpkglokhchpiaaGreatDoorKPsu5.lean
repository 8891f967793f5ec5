/- The given card StonesSum, proved: the law returns true at every input, and its arguments read as before; the listed variables are tied to the program's text. -/
import Derived.Test.YtmpkglokhchpiaaGreatDoorRows
import Derived.ProofKit
import Derived.OpenShut
import Derived.Lib.SmallJoins
import Derived.Stop.LaidErr
import Derived.MakeChecks
import Derived.Shelf.Vars
import Derived.Test.YtmpkglokhchpiaaGreatDoorCards
import Derived.Test.YtmpkglokhchpiaaGreatDoorTie
import Derived.Deep.DeepHandedRow
import Derived.LaidMore
import Derived.Lay
import Derived.SevenTiedAt
import Derived.Stop.Joined
import Derived.Test.YtmpkglokhchpiaaGreatDoorKPsu4
set_option linter.unusedSimpArgs false
set_option linter.unusedVariables false
open List renaming getElem_toArray → lq0, getElem_cons_succ → lq1, getElem_cons_zero → lq2, setIfInBounds_toArray → lq3, set_cons_zero → lq4, set_cons_succ → lq5
namespace Go.Proofs.YtmpkglokhchpiaaGreatDoor
set_option linter.unusedSimpArgs false
set_option linter.unusedVariables false
open Go.RowKit

def rowN (f : FaceV) (k : Int) (r : Nat) : Nat := (List.range f.S).countP fun s => decide (f.kat (r * f.S + s) = k)
def areaN (f : FaceV) (k : Int) : Nat → Int
  | 0 => 0
  | r + 1 => areaN f k r + (2 * (f.eye + r) + 1) * (rowN f k r : Int)
theorem range_block (S : Nat) (hS : 0 < S) (r : Nat) : List.range ((r + 1) * S) = List.range (r * S) ++ (List.range S).map (fun s => r * S + s) := by
  rw [Nat.add_mul, Nat.one_mul, List.range_add]
theorem cells_sum (f : FaceV) (k : Int) (hS : f.sectors = (f.S : Int)) (h0 : 0 < f.S) : ∀ r, (((cellsF f k (r * f.S)).map fun c => weightF f c.1).sum : Int) = areaN f k r
  | 0 => by simp [cellsF, areaN]
  | r + 1 => by
    have ih := cells_sum f k hS h0 r
    unfold cellsF at ih ⊢
    rw [range_block f.S h0 r, List.filterMap_append, List.map_append, List.sum_append, ih, areaN]
    congr 1
    have : ∀ (l : List Nat), (∀ s ∈ l, s < f.S) → (((l.map fun s => r * f.S + s).filterMap fun (i : Nat) => if f.kat i = k then some (cellF f i) else none).map fun c => weightF f c.1).sum = (2 * (f.eye + r) + 1) * ((l.countP fun s => decide (f.kat (r * f.S + s) = k) : Nat) : Int) := by
      intro l
      induction l with
      | nil => intro _; simp
      | cons s l ih2 =>
        intro hl
        have hs := hl s (List.mem_cons_self ..)
        have ih3 := ih2 (fun x hx => hl x (List.mem_cons_of_mem _ hx))
        have ec : (cellF f ((r * f.S + s : Nat) : Int)).1 = (r : Int) := by
          unfold cellF
          show ((r * f.S + s : Nat) : Int) / f.sectors = _
          rw [hS]
          have : (r * f.S + s) / f.S = r := by
            rw [Nat.mul_comm, Nat.mul_add_div h0, Nat.div_eq_of_lt hs, Nat.add_zero]
          exact_mod_cast congrArg (Nat.cast (R := Int)) this
        rw [List.map_cons]
        by_cases hq : f.kat (r * f.S + s) = k
        · rw [List.filterMap_cons_some (by rw [if_pos hq]), List.map_cons, List.sum_cons, ih3, List.countP_cons_of_pos (by simpa using hq), ec]
          unfold weightF
          generalize (2 * (f.eye + (r : Int)) + 1) = W
          generalize l.countP _ = C
          rw [Int.natCast_add, Int.mul_add]
          simp only [Int.natCast_one, Int.mul_one, Int.cast_ofNat_Int]
          omega
        · rw [List.filterMap_cons_none (by rw [if_neg hq]), ih3, List.countP_cons_of_neg (by simpa using hq)]
    exact this (List.range f.S) (fun s hs => List.mem_range.1 hs)
theorem count_map {S : Nat} (g h : Nat → Nat) (p : Nat → Bool) (hg : ∀ s, s < S → g s < S ∧ h (g s) = s) (hh : ∀ s, s < S → h s < S ∧ g (h s) = s) : (List.range S).countP (fun s => p (g s)) = (List.range S).countP p := by
  have e : (List.range S).countP (fun s => p (g s)) = ((List.range S).map g).countP p := by rw [List.countP_map]; rfl
  rw [e]
  refine List.Perm.countP_eq _ ((List.perm_ext_iff_of_nodup ?_ List.nodup_range).2 fun a => ?_)
  · rw [List.Nodup, List.pairwise_map]
    refine List.Pairwise.imp_of_mem ?_ (List.nodup_range (n := S))
    intro a b ha hb hab e2
    rw [List.mem_range] at ha hb
    refine hab ?_
    rw [← (hg a ha).2, ← (hg b hb).2, e2]
  · rw [List.mem_map, List.mem_range]
    constructor
    · rintro ⟨s, hs, rfl⟩
      exact (hg s (List.mem_range.1 hs)).1
    · intro ha
      exact ⟨h a, List.mem_range.2 (hh a ha).1, (hh a ha).2⟩
theorem area_map {f : FaceV} (hv : f.valid = true) (of : Int → Int) (of' : Nat → Nat) (h1 : ∀ s : Nat, s < f.S → of' ((of s) % (f.S : Int)).toNat = s) (h2 : ∀ s : Nat, s < f.S → of' s < f.S ∧ ((of (of' s : Nat)) % (f.S : Int)).toNat = s) (k : Int) : ∀ r, r ≤ f.R → areaN (mapF f f.S of) k r = areaN f k r
  | 0, _ => rfl
  | r + 1, hr => by
    have ih := area_map hv of of' h1 h2 k r (by omega)
    have hS : (mapF f f.S of).S = f.S := rfl
    have hrow : rowN (mapF f f.S of) k r = rowN f k r := by
      unfold rowN
      rw [hS]
      have e : (List.range f.S).countP (fun s => decide ((mapF f f.S of).kat (r * f.S + s) = k)) = (List.range f.S).countP (fun (s : Nat) => (fun (s : Nat) => decide (f.kat (r * f.S + s) = k)) ((of s % (f.S : Int)).toNat)) := by
        refine List.countP_congr fun s hs => ?_
        rw [List.mem_range] at hs
        rw [mapF_kat f.S of (by omega) hs, indexF_eq hv, Int.toNat_natCast]
      rw [e]
      exact count_map (fun s => (of s % (f.S : Int)).toNat) of' (fun s => decide (f.kat (r * f.S + s) = k)) (fun s hs => ⟨rot_lt hv _, h1 s hs⟩) h2
    show areaN (mapF f f.S of) k r + (2 * (f.eye + r) + 1) * (rowN (mapF f f.S of) k r : Int) = _
    rw [ih, hrow]
    rfl
theorem areaP_eq {f : FaceV} (hv : f.valid = true) {k : Int} (hk : kindB k = true) : areaP f k = (areaN f k f.R, 0) := by
  obtain ⟨e1, e2, e3, e4, e5, e6, e7⟩ := FaceV.nat hv
  unfold areaP cellsP
  rw [if_neg (by rw [hv]; decide), if_neg (by rw [hk]; decide), e7, cells_sum f k e2 (by omega)]
theorem areaP_turn {f : FaceV} (hv : f.valid = true) (b k : Int) (hk : kindB k = true) : areaP (turnF f b) k = areaP f k := by
  obtain ⟨e1, e2, e3, e4, e5, e6, e7⟩ := FaceV.nat hv
  have h := mapF_valid hv f.S ⟨e5, e6⟩ (fun s => s - around b f.sectors)
  rw [areaP_eq hv hk]
  unfold turnF
  rw [areaP_eq h hk]
  have hpos : (0 : Int) < (f.S : Int) := by omega
  have hr : (mapF f f.S (fun s => s - around b f.sectors)).R = f.R := rfl
  rw [hr, area_map hv _ (fun s => (((s : Int) + b) % (f.S : Int)).toNat) (fun s hs => ?_) (fun s hs => ?_) k f.R (Nat.le_refl _)]
  · unfold around
    rw [e2]
    have h1 := Int.emod_nonneg (s - b % (f.S : Int)) (show (f.S : Int) ≠ 0 by omega)
    rw [Int.toNat_of_nonneg h1, Int.emod_add_emod]
    rw [show (s : Int) - b % (f.S : Int) + b = s + (b - b % (f.S : Int)) by omega, show b - b % (f.S : Int) = (f.S : Int) * (b / (f.S : Int)) by have := Int.emod_add_mul_ediv b (f.S : Int); omega, Int.add_mul_emod_self_left, Int.emod_eq_of_lt (by omega) (by omega)]
    simp
  · have h1 := Int.emod_nonneg ((s : Int) + b) (show (f.S : Int) ≠ 0 by omega)
    refine ⟨rot_lt hv _, ?_⟩
    unfold around
    rw [e2, Int.toNat_of_nonneg h1, ← Int.sub_emod, show (s : Int) + b - b = s by omega, Int.emod_eq_of_lt (by omega) (by omega)]
    simp
theorem areaP_mirror {f : FaceV} (hv : f.valid = true) (k : Int) (hk : kindB k = true) : areaP (mirrorF f) k = areaP f k := by
  obtain ⟨e1, e2, e3, e4, e5, e6, e7⟩ := FaceV.nat hv
  have h := mapF_valid hv f.S ⟨e5, e6⟩ (fun s => f.sectors - 1 - s)
  rw [areaP_eq hv hk]
  unfold mirrorF
  rw [areaP_eq h hk]
  have hr : (mapF f f.S (fun s => f.sectors - 1 - s)).R = f.R := rfl
  rw [hr, area_map hv _ (fun s => f.S - 1 - s) (fun s hs => ?_) (fun s hs => ?_) k f.R (Nat.le_refl _)]
  · rw [e2, Int.emod_eq_of_lt (by omega) (by omega)]
    omega
  · refine ⟨by omega, ?_⟩
    rw [e2, Int.emod_eq_of_lt (by omega) (by omega)]
    omega
theorem row_all {f : FaceV} (hv : f.valid = true) {r : Nat} (hr : r < f.R) : rowN f 0 r + rowN f 1 r + rowN f 2 r = f.S := by
  obtain ⟨e1, e2, e3, e4, e5, e6, e7⟩ := FaceV.nat hv
  obtain ⟨_, _, _, _, h5⟩ := FaceV.valid_iff.1 hv
  have : ∀ l : List Nat, (∀ s ∈ l, s < f.S) → l.countP (fun s => decide (f.kat (r * f.S + s) = 0)) + l.countP (fun s => decide (f.kat (r * f.S + s) = 1)) + l.countP (fun s => decide (f.kat (r * f.S + s) = 2)) = l.length := by
    intro l
    induction l with
    | nil => intro _; rfl
    | cons s l ih =>
      intro hl
      have ih2 := ih (fun x hx => hl x (List.mem_cons_of_mem _ hx))
      have hs := hl s (List.mem_cons_self ..)
      have hlt : r * f.S + s < f.kinds.length := by
        rw [e7]
        have := Nat.mul_le_mul_right f.S (show r + 1 ≤ f.R by omega)
        rw [Nat.add_mul] at this
        omega
      have hk : 0 ≤ f.kat (r * f.S + s) ∧ f.kat (r * f.S + s) ≤ 2 := by
        unfold FaceV.kat
        rw [List.getElem?_eq_getElem hlt]
        exact h5 _ (List.getElem_mem hlt)
      have h3 : f.kat (r * f.S + s) = 0 ∨ f.kat (r * f.S + s) = 1 ∨ f.kat (r * f.S + s) = 2 := by omega
      rw [List.length_cons, List.countP_cons, List.countP_cons, List.countP_cons]
      rcases h3 with h3 | h3 | h3 <;> simp [h3] <;> omega
  have h := this (List.range f.S) (fun s hs => List.mem_range.1 hs)
  rw [List.length_range] at h
  exact h
theorem area_all {f : FaceV} (hv : f.valid = true) : ∀ r, r ≤ f.R → areaN f 0 r + areaN f 1 r + areaN f 2 r = f.sectors * ((f.eye + r) * (f.eye + r) - f.eye * f.eye)
  | 0, _ => by simp [areaN]
  | r + 1, hr => by
    obtain ⟨e1, e2, e3, e4, e5, e6, e7⟩ := FaceV.nat hv
    have ih := area_all hv r (by omega)
    have hrow := row_all hv (show r < f.R by omega)
    have hc : (rowN f 0 r : Int) + (rowN f 1 r : Int) + (rowN f 2 r : Int) = f.sectors := by rw [e2]; omega
    unfold areaN
    have e : (areaN f 0 r + (2 * (f.eye + (r : Int)) + 1) * (rowN f 0 r : Int)) + (areaN f 1 r + (2 * (f.eye + (r : Int)) + 1) * (rowN f 1 r : Int)) + (areaN f 2 r + (2 * (f.eye + (r : Int)) + 1) * (rowN f 2 r : Int)) = (areaN f 0 r + areaN f 1 r + areaN f 2 r) + (2 * (f.eye + (r : Int)) + 1) * ((rowN f 0 r : Int) + (rowN f 1 r : Int) + (rowN f 2 r : Int)) := by
      generalize (2 * (f.eye + (r : Int)) + 1) = W
      rw [Int.mul_add, Int.mul_add]
      omega
    rw [e, ih, hc]
    have e9 : (f.eye + ((r + 1 : Nat) : Int)) * (f.eye + ((r + 1 : Nat) : Int)) = (f.eye + (r : Int)) * (f.eye + (r : Int)) + (2 * (f.eye + (r : Int)) + 1) := by
      push_cast
      generalize hx : f.eye + (r : Int) = x
      rw [show f.eye + ((r : Int) + 1) = x + 1 by omega, Int.add_mul, Int.mul_add]
      omega
    rw [e9, Int.mul_comm (2 * (f.eye + (r : Int)) + 1) f.sectors, ← Int.mul_add]
    congr 1
    omega
theorem areaP_all {f : FaceV} (hv : f.valid = true) : (areaP f 0).1 + (areaP f 1).1 + (areaP f 2).1 = f.sectors * ((f.eye + f.rings) * (f.eye + f.rings) - f.eye * f.eye) := by
  rw [areaP_eq hv (by decide), areaP_eq hv (by decide), areaP_eq hv (by decide)]
  have := area_all hv f.R (Nat.le_refl _)
  rwa [← (FaceV.nat hv).1] at this
end Go.Proofs.YtmpkglokhchpiaaGreatDoor
namespace Go.Proofs.YtmpkglokhchpiaaGreatDoor
set_option linter.unusedSimpArgs false
set_option linter.unusedVariables false
open Go.RowKit

theorem list_bound : ∀ (l : List Int) (h : ∀ x ∈ l, 0 ≤ x ∧ x ≤ 100), 0 ≤ l.sum ∧ l.sum ≤ 100 * (l.length : Int)
  | [], _ => by simp
  | x :: l, h => by
    have h1 := h x (List.mem_cons_self ..)
    have h2 := list_bound l (fun y hy => h y (List.mem_cons_of_mem x hy))
    rw [List.sum_cons, List.length_cons]
    push_cast
    omega
theorem area_bound {f : FaceV} (hv : f.valid = true) (K : Int) : 0 ≤ (areaP f K).1 ∧ (areaP f K).1 ≤ 230400 := by
  have hl : (cellsP f K).1.length ≤ 2304 := by
    unfold cellsP
    rw [if_neg (by rw [hv]; decide)]
    split
    · simp
    · exact Nat.le_trans (cellsF_len _ _ _) (FaceV.len_le hv)
  have h := list_bound ((cellsP f K).1.map fun c => weightF f c.1) (fun x hx => by
    obtain ⟨c, hc, rfl⟩ := List.mem_map.1 hx
    unfold cellsP at hc
    rw [if_neg (by rw [hv]; decide)] at hc
    split at hc
    · cases hc
    · obtain ⟨i, hi, _, rfl⟩ := cellsF_mem.1 hc
      obtain ⟨k1, _⟩ := cellF_has hv (i := (i : Int)) ⟨by omega, by omega⟩
      have h1 := (hasF_iff.1 k1).1
      have h2 := FaceV.valid_iff.1 hv
      unfold weightF
      omega)
  rw [List.length_map] at h
  have e : (areaP f K).1 = ((cellsP f K).1.map fun c => weightF f c.1).sum := rfl
  rw [e]
  omega
def sumK (f : FaceV) (k : Nat) : Int := ((List.range k).map fun (i : Nat) => (areaP f (i : Int)).1).sum
theorem sumK_succ (f : FaceV) (k : Nat) : sumK f (k + 1) = sumK f k + (areaP f (k : Int)).1 := by
  unfold sumK
  rw [List.range_succ, List.map_append, List.sum_append]
  simp
theorem sumK_bound {f : FaceV} (hv : f.valid = true) : ∀ k, 0 ≤ sumK f k ∧ sumK f k ≤ 230400 * (k : Int)
  | 0 => by simp [sumK]
  | k + 1 => by
    have h1 := sumK_bound hv k
    have h2 := area_bound hv k
    rw [sumK_succ]
    push_cast
    omega
set_option maxHeartbeats 4000000 in
set_option maxRecDepth 100000 in
theorem sum_any (f : FaceV) (a : Option Addr) (n : Nat) (by_ : Int) (w : World) (he : EnvW w) (hr : RdI w a f.kinds.length n f.kinds) :
    Calls Tryz.prog 4 #[.agg (f.cells a n), .int .i64 by_] w fun e w' => e = .returned (.bool true) ∧ Below w.heap.size w w' := by
  have EV := Lib.hid (fun W (hb : Below w.heap.size w W) => he.below hb)
  have HR := Lib.hid hr
  clear he hr
  have AL := Lib.hid (al1 w (.cells (f.cells a n) 28))
  go_enter Tryz.func4, Tryz.ntmps4
  go_upto_region 1 with fail
  obtain ⟨p, hp⟩ : ∃ p, Hid (w.heap.size = p) := ⟨_, Lib.hid rfl⟩
  rw [hp.out] at AL ⊢
  generalize (w.alloc (.cells (f.cells a n) 28)) = W0 at *
  have BF : Hid (Below w.heap.size w W0) := Lib.hid (by rw [hp.out]; exact AL.out.1)
  have XF : Hid (W0.heap[p]? = some (.cells (f.cells a n) 28 (0, 0))) := Lib.hid AL.out.2
  clear AL
  have c0 := qcell XF.out 0 (.int .i64 f.eye) rfl
  have c1 := qcell XF.out 1 (.int .i64 f.rings) rfl
  have c2 := qcell XF.out 2 (.int .i64 f.sectors) rfl
  have c3 := qcell XF.out 3 (.slice a f.kinds.length n) rfl
  clear c0 c1 c2 c3
  replace HR := Lib.hid (HR.out.below BF.out)
  go_upto_region 1 with fail
  refine yB ?_
  refine yR (fun K hK => ?_)
  go_simp
  refine (awake_any _ (EV.out _ BF.out)).mono ?_
  rintro e U1 ⟨rfl, b⟩
  replace BF := Lib.hid (BF.out.trans (b.mono BF.out.size))
  replace HR := Lib.hid (HR.out.below b)
  replace XF := Lib.hid (qblk b XF.out)
  clear b
  try dsimp only
  refine yK hK ?_
  clear hK K
  refine yM (.bool true) ?_
  refine yE ?_
  go_upto_region 2 with fail
  refine yB ?_
  refine yW (.agg (f.cells a n)) ?_ (qyrow (by kernel_rfl) 28 _ rfl p rfl _ 28 (0, 0) _ (fun W hW => by rw [hW]; exact XF.out) Tryz.underlying28 rfl (by exact (qJF f a n)))
  refine yR (fun K hK => ?_)
  go_simp
  refine (short_any f a n _).mono ?_
  rintro e wr ⟨rfl, b⟩
  replace BF := Lib.hid (BF.out.trans (b.mono BF.out.size))
  replace HR := Lib.hid (HR.out.below b)
  replace XF := Lib.hid (qblk b XF.out)
  clear b
  cases h1 : decide (f.kinds.length ≤ 3000)
  · try dsimp only
    refine yK hK ?_
    clear hK K
    refine yM (.bool true) ?_
    refine yM (.bool true) ?_
    go_skip
    refine yM (.bool true) ?_
    refine yE ?_
    go_wp2_with fail
    go_ret
    exact ⟨rfl, BF.out⟩
  · try dsimp only
    refine yK hK ?_
    clear hK K
    refine yM (.bool false) ?_
    refine yM (.bool false) ?_
    refine yW (.agg (f.cells a n)) ?_ (qyrow (by kernel_rfl) 28 _ rfl p rfl _ 28 (0, 0) _ (fun W hW => by rw [hW]; exact XF.out) Tryz.underlying28 rfl (by exact (qJF f a n)))
    refine yR (fun K hK => ?_)
    go_simp
    refine (valid2_any f a n _ HR.out).mono ?_
    rintro e wr ⟨rfl, b⟩
    replace BF := Lib.hid (BF.out.trans (b.mono BF.out.size))
    replace HR := Lib.hid (HR.out.below b)
    replace XF := Lib.hid (qblk b XF.out)
    clear b
    cases hv : f.valid
    · try dsimp only
      refine yK hK ?_
      clear hK K
      refine yM (.bool true) ?_
      refine yM (.bool true) ?_
      refine yE ?_
      go_wp2_with fail
      go_ret
      exact ⟨rfl, BF.out⟩
    · have HV := Lib.hid hv
      clear hv
      try dsimp only
      refine yK hK ?_
      clear hK K
      refine yM (.bool false) ?_
      refine yM (.bool false) ?_
      refine yE ?_
      go_upto_region 4 with fail
      refine yB ?_
      refine yW (.agg (f.cells a n)) ?_ (qyrow (by kernel_rfl) 28 _ rfl p rfl _ 28 (0, 0) _ (fun W hW => by rw [hW]; exact XF.out) Tryz.underlying28 rfl (by exact (qJF f a n)))
      refine yM (.int .i64 by_) ?_
      refine yR (fun K hK => ?_)
      go_simp
      refine (turnP_any f a n by_ _ HR.out).mono ?_
      rintro e U4 ⟨⟨b1, m1, rfl, own⟩, b⟩
      rw [show turnP f by_ = (turnF f by_, 0) by unfold turnP; rw [HV.out]; rfl] at own ⊢
      dsimp only at own
      have R1 := Lib.hid own.rd
      clear own
      replace BF := Lib.hid (BF.out.trans (b.mono BF.out.size))
      replace HR := Lib.hid (HR.out.below b)
      replace XF := Lib.hid (qblk b XF.out)
      clear b
      try dsimp only
      refine yK hK ?_
      clear hK K
      refine yM (.tuple #[.agg ((turnF f by_).cells b1 m1), .int .i64 0]) ?_
      refine yM (.agg ((turnF f by_).cells b1 m1)) ?_
      refine yM (.int .i64 0) ?_
      refine yR (fun K hK => ?_)
      refine qbuild (w' := U4.alloc (.cells #[.int .i64 0, .int .i64 0, .int .i64 0, .slice none 0 0] 28)) (.pointer (some ⟨U4.heap.size, 0, none⟩)) (by kernel_rfl) ?_
      obtain ⟨x6, hx6⟩ : ∃ x, Hid (U4.heap.size = x) := ⟨_, Lib.hid rfl⟩
      have AL := Lib.hid (al1 U4 (.cells #[.int .i64 0, .int .i64 0, .int .i64 0, .slice none 0 0] 28))
      rw [hx6.out] at AL ⊢
      refine yK hK ?_
      clear hK K
      refine yR (fun K hK => ?_)
      refine qstore 28 _ _ rfl x6 #[.int .i64 0, .int .i64 0, .int .i64 0, .slice none 0 0] ((turnF f by_).cells b1 m1) 28 rfl rfl AL.out.2 (by exact qJF (turnF f by_) b1 m1) rfl (qone (turnF f by_) b1 m1) ?_
      intro U5 h8 hg8 hs8
      have b : Below U4.heap.size U4 U5 := qstep (by have h1 := AL.out.1; rw [← hx6.out] at h1; exact h1) hg8 (Nat.le_of_eq hx6.out)
      replace BF := Lib.hid (BF.out.trans (b.mono BF.out.size))
      replace HR := Lib.hid (HR.out.below b)
      replace R1 := Lib.hid (R1.out.below b)
      replace XF := Lib.hid (qblk b XF.out)
      clear b
      have Xx6 := Lib.hid h8
      clear h8 hg8 hs8 AL
      refine yK hK ?_
      clear hK K
      refine yM (.int .i64 0) ?_
      refine yE ?_
      go_upto_region 5 with fail
      refine yB ?_
      refine yW (.agg (f.cells a n)) ?_ (qyrow (by kernel_rfl) 28 _ rfl p rfl _ 28 (0, 0) _ (fun W hW => by rw [hW]; exact XF.out) Tryz.underlying28 rfl (by exact (qJF f a n)))
      refine yR (fun K hK => ?_)
      go_simp
      refine (mirrorP_any f a n _ HR.out).mono ?_
      rintro e U6 ⟨⟨b2, m2, rfl, own⟩, b⟩
      rw [show mirrorP f = (mirrorF f, 0) by unfold mirrorP; rw [HV.out]; rfl] at own ⊢
      dsimp only at own
      have R2 := Lib.hid own.rd
      clear own
      replace BF := Lib.hid (BF.out.trans (b.mono BF.out.size))
      replace HR := Lib.hid (HR.out.below b)
      replace R1 := Lib.hid (R1.out.below b)
      replace XF := Lib.hid (qblk b XF.out)
      replace Xx6 := Lib.hid (qblk b Xx6.out)
      clear b
      try dsimp only
      refine yK hK ?_
      clear hK K
      refine yM (.tuple #[.agg ((mirrorF f).cells b2 m2), .int .i64 0]) ?_
      refine yM (.agg ((mirrorF f).cells b2 m2)) ?_
      refine yM (.int .i64 0) ?_
      refine yR (fun K hK => ?_)
      refine qbuild (w' := U6.alloc (.cells #[.int .i64 0, .int .i64 0, .int .i64 0, .slice none 0 0] 28)) (.pointer (some ⟨U6.heap.size, 0, none⟩)) (by kernel_rfl) ?_
      obtain ⟨x8, hx8⟩ : ∃ x, Hid (U6.heap.size = x) := ⟨_, Lib.hid rfl⟩
      have AL := Lib.hid (al1 U6 (.cells #[.int .i64 0, .int .i64 0, .int .i64 0, .slice none 0 0] 28))
      rw [hx8.out] at AL ⊢
      refine yK hK ?_
      clear hK K
      refine yR (fun K hK => ?_)
      refine qstore 28 _ _ rfl x8 #[.int .i64 0, .int .i64 0, .int .i64 0, .slice none 0 0] ((mirrorF f).cells b2 m2) 28 rfl rfl AL.out.2 (by exact qJF (mirrorF f) b2 m2) rfl (qone (mirrorF f) b2 m2) ?_
      intro U7 h8 hg8 hs8
      have b : Below U6.heap.size U6 U7 := qstep (by have h1 := AL.out.1; rw [← hx8.out] at h1; exact h1) hg8 (Nat.le_of_eq hx8.out)
      replace BF := Lib.hid (BF.out.trans (b.mono BF.out.size))
      replace HR := Lib.hid (HR.out.below b)
      replace R1 := Lib.hid (R1.out.below b)
      replace R2 := Lib.hid (R2.out.below b)
      replace XF := Lib.hid (qblk b XF.out)
      replace Xx6 := Lib.hid (qblk b Xx6.out)
      clear b
      have Xx8 := Lib.hid h8
      clear h8 hg8 hs8 AL
      refine yK hK ?_
      clear hK K
      refine yM (.int .i64 0) ?_
      refine yE ?_
      go_upto_region 6 with fail
      refine yB ?_
      refine yM (.int .i64 0) ?_
      refine yW (.bool false) ?_
      refine yM (.bool false) ?_
      refine yM (.int .i64 0) ?_
      refine yW (.bool false) ?_
      refine yM (.bool false) ?_
      refine yE ?_
      go_wp2_with fail
      go_loopw [10, 11] (fun s v wr => ∃ k : Nat, v = .int .i64 (k : Int) ∧ s = .int .i64 (sumK f k) ∧ k ≤ 3 ∧ Hid (Below w.heap.size w wr) ∧ Hid (RdI wr a f.kinds.length n f.kinds) ∧ Hid (RdI wr b1 (turnF f by_).kinds.length m1 (turnF f by_).kinds) ∧ Hid (RdI wr b2 (mirrorF f).kinds.length m2 (mirrorF f).kinds) ∧ Hid (wr.heap[p]? = some (.cells (f.cells a n) 28 (0, 0))) ∧ Hid (wr.heap[x6]? = some (.cells ((turnF f by_).cells b1 m1) 28 (0, 0))) ∧ Hid (wr.heap[x8]? = some (.cells ((mirrorF f).cells b2 m2) 28 (0, 0)))) (fun _ v _ => 3 - (intOf v).toNat)
      case atStart => exact ⟨0, rfl, by rfl, by omega, BF, HR, R1, R2, XF, Xx6, Xx8⟩
      case round =>
        clear BF HR R1 R2 XF Xx6 Xx8
        obtain ⟨k, rfl, rfl, hk, BF, HR, R1, R2, XF, Xx6, Xx8⟩ := hrel
        by_cases hkn : k < 3
        · have t0 : decide ((k : Int) < 3) = true := by simp; omega
          have KB : Hid (kindB (k : Int) = true) := Lib.hid (by rcases (show k = 0 ∨ k = 1 ∨ k = 2 by omega) with rfl | rfl | rfl <;> decide)
          obtain ⟨A, hA⟩ : ∃ A, Hid ((areaP f (k : Int)).1 = A) := ⟨_, Lib.hid rfl⟩
          have PA : Hid (areaP f (k : Int) = (A, 0)) := Lib.hid (by rw [← hA.out, areaP_eq HV.out KB.out])
          have PT : Hid (areaP (turnF f by_) (k : Int) = (A, 0)) := Lib.hid (by rw [areaP_turn HV.out by_ k KB.out, PA.out])
          have PM : Hid (areaP (mirrorF f) (k : Int) = (A, 0)) := Lib.hid (by rw [areaP_mirror HV.out k KB.out, PA.out])
          have SS := Lib.hid (sumK_succ f k)
          rw [hA.out] at SS
          have AB : Hid ((0 ≤ A ∧ A ≤ 230400) ∧ 0 ≤ sumK f k ∧ sumK f k ≤ 691200) := Lib.hid (by have h1 := area_bound HV.out (k : Int); rw [hA.out] at h1; have h2 := sumK_bound HV.out k; omega)
          have WS := Lib.hid (show wrap64 (sumK f k + A) = sumK f (k + 1) by have := AB.out; rw [SS.out]; unfold wrap64; omega)
          have HK64 : Hid ((k : Int) + 1 ≤ 9223372036854775807) := Lib.hid (by omega)
          go_upto_region 12 with fail
          clear t0
          refine yB ?_
          refine yW (.agg (f.cells a n)) ?_ (qyrow (by kernel_rfl) 28 _ rfl p rfl _ 28 (0, 0) _ (fun W hW => by rw [hW]; exact XF.out) Tryz.underlying28 rfl (by exact (qJF f a n)))
          refine yM (.int .i64 (k : Int)) ?_
          refine yR (fun K hK => ?_)
          go_simp
          refine (areaP_any f a n (k : Int) _ HR.out).mono ?_
          rintro e U8 ⟨rfl, b⟩
          rw [PA.out]
          replace BF := Lib.hid (BF.out.trans (b.mono BF.out.size))
          replace HR := Lib.hid (HR.out.below b)
          replace R1 := Lib.hid (R1.out.below b)
          replace R2 := Lib.hid (R2.out.below b)
          replace XF := Lib.hid (qblk b XF.out)
          replace Xx6 := Lib.hid (qblk b Xx6.out)
          replace Xx8 := Lib.hid (qblk b Xx8.out)
          clear b
          try dsimp only
          refine yK hK ?_
          clear hK K
          refine yM (.tuple #[.int .i64 A, .int .i64 0]) ?_
          refine yM (.int .i64 A) ?_
          refine yM (.int .i64 0) ?_
          refine yM (.int .i64 A) ?_
          refine yM (.int .i64 0) ?_
          refine yE ?_
          go_upto_region 13 with fail
          refine yB ?_
          refine yW (.agg ((turnF f by_).cells b1 m1)) ?_ (qyrow (by kernel_rfl) 28 _ rfl x6 rfl _ 28 (0, 0) _ (fun W hW => by rw [hW]; exact Xx6.out) Tryz.underlying28 rfl (by exact (qJF (turnF f by_) b1 m1)))
          refine yM (.int .i64 (k : Int)) ?_
          refine yR (fun K hK => ?_)
          go_simp
          refine (areaP_any (turnF f by_) b1 m1 (k : Int) _ R1.out).mono ?_
          rintro e U9 ⟨rfl, b⟩
          rw [PT.out]
          replace BF := Lib.hid (BF.out.trans (b.mono BF.out.size))
          replace HR := Lib.hid (HR.out.below b)
          replace R1 := Lib.hid (R1.out.below b)
          replace R2 := Lib.hid (R2.out.below b)
          replace XF := Lib.hid (qblk b XF.out)
          replace Xx6 := Lib.hid (qblk b Xx6.out)
          replace Xx8 := Lib.hid (qblk b Xx8.out)
          clear b
          try dsimp only
          refine yK hK ?_
          clear hK K
          refine yM (.tuple #[.int .i64 A, .int .i64 0]) ?_
          refine yM (.int .i64 A) ?_
          refine yM (.int .i64 0) ?_
          refine yM (.int .i64 A) ?_
          refine yM (.int .i64 0) ?_
          refine yE ?_
          go_upto_region 14 with fail
          refine yB ?_
          refine yW (.agg ((mirrorF f).cells b2 m2)) ?_ (qyrow (by kernel_rfl) 28 _ rfl x8 rfl _ 28 (0, 0) _ (fun W hW => by rw [hW]; exact Xx8.out) Tryz.underlying28 rfl (by exact (qJF (mirrorF f) b2 m2)))
          refine yM (.int .i64 (k : Int)) ?_
          refine yR (fun K hK => ?_)
          go_simp
          refine (areaP_any (mirrorF f) b2 m2 (k : Int) _ R2.out).mono ?_
          rintro e U10 ⟨rfl, b⟩
          rw [PM.out]
          replace BF := Lib.hid (BF.out.trans (b.mono BF.out.size))
          replace HR := Lib.hid (HR.out.below b)
          replace R1 := Lib.hid (R1.out.below b)
          replace R2 := Lib.hid (R2.out.below b)
          replace XF := Lib.hid (qblk b XF.out)
          replace Xx6 := Lib.hid (qblk b Xx6.out)
          replace Xx8 := Lib.hid (qblk b Xx8.out)
          clear b
          try dsimp only
          refine yK hK ?_
          clear hK K
          refine yM (.tuple #[.int .i64 A, .int .i64 0]) ?_
          refine yM (.int .i64 A) ?_
          refine yM (.int .i64 0) ?_
          refine yM (.int .i64 A) ?_
          refine yM (.int .i64 0) ?_
          refine yE ?_
          go_upto_region 15 with fail
          refine yB ?_
          refine yM (.int .i64 0) ?_
          refine yW (.bool false) ?_
          refine yM (.bool false) ?_
          refine yM (.int .i64 0) ?_
          refine yW (.bool false) ?_
          refine yM (.bool false) ?_
          refine yM (.bool false) ?_
          refine yM (.int .i64 0) ?_
          refine yW (.bool false) ?_
          refine yM (.bool false) ?_
          refine yM (.bool false) ?_
          refine yM (.int .i64 A) ?_
          refine yM (.int .i64 A) ?_
          refine yW (.bool false) ?_
          refine yM (.bool false) ?_
          refine yM (.bool false) ?_
          refine yM (.int .i64 A) ?_
          refine yM (.int .i64 A) ?_
          refine yW (.bool false) ?_
          refine yM (.bool false) ?_
          refine yE ?_
          go_upto_region 17 with fail
          refine yB ?_
          refine yM (.int .i64 (sumK f k)) ?_
          refine yM (.int .i64 A) ?_
          refine yW (.int .i64 (sumK f (k + 1))) ?_ (.inl ⟨by kernel_rfl, by intro W hW; rw [hW]; go_simp; exact (IntWalk.i64_left _).trans WS.out⟩)
          refine yM (.int .i64 (sumK f (k + 1))) ?_
          refine yE ?_
          go_upto_region 11 with fail
          have hk64 := HK64.out
          go_wp2_with fail
          go_roundw
          case rel => exact ⟨k + 1, by simp, rfl, by omega, BF, HR, R1, R2, XF, Xx6, Xx8⟩
          case measure => simp [intOf]; omega
        · have t0 : decide ((k : Int) < 3) = false := by simp; omega
          have e : k = 3 := by omega
          subst e
          have SA := Lib.hid (areaP_all HV.out)
          have S3 : Hid (sumK f 3 = f.sectors * ((f.eye + f.rings) * (f.eye + f.rings) - f.eye * f.eye)) := Lib.hid (by rw [← SA.out]; unfold sumK; simp [List.range_succ]; omega)
          have S4 := Lib.hid (sumK_bound HV.out 3)
          have VB := Lib.hid (FaceV.valid_iff.1 HV.out)
          obtain ⟨er, her⟩ : ∃ x, Hid (f.eye + f.rings = x) := ⟨_, Lib.hid rfl⟩
          have ERB : Hid (2 ≤ er ∧ er ≤ 40) := Lib.hid (by have := VB.out; have := her.out; omega)
          obtain ⟨ee, hee⟩ : ∃ x, Hid (er * er = x) := ⟨_, Lib.hid rfl⟩
          have EEB : Hid (0 ≤ ee ∧ ee ≤ 1600) := Lib.hid (by have h := ERB.out; rw [← hee.out]; exact ⟨Int.mul_nonneg (by omega) (by omega), Int.mul_le_mul h.2 h.2 (by omega) (by omega)⟩)
          obtain ⟨yy, hyy⟩ : ∃ x, Hid (f.eye * f.eye = x) := ⟨_, Lib.hid rfl⟩
          have YYB : Hid (0 ≤ yy ∧ yy ≤ 256) := Lib.hid (by have h := VB.out.1; rw [← hyy.out]; exact ⟨Int.mul_nonneg (by omega) (by omega), Int.mul_le_mul h.2 h.2 (by omega) (by omega)⟩)
          rw [her.out, hee.out, hyy.out] at S3
          have W1 := Lib.hid (show wrap64 (f.eye + f.rings) = er by have := ERB.out; have := her.out; unfold wrap64; omega)
          have W2 := Lib.hid (show wrap64 (er * er) = ee by have := EEB.out; have := hee.out; unfold wrap64; omega)
          have W3 := Lib.hid (show wrap64 (f.eye * f.eye) = yy by have := YYB.out; have := hyy.out; unfold wrap64; omega)
          have W4 := Lib.hid (show wrap64 (ee - yy) = ee - yy by have := YYB.out; have := EEB.out; unfold wrap64; omega)
          have W5 := Lib.hid (show wrap64 (f.sectors * (ee - yy)) = sumK f 3 by have h := S4.out; rw [← S3.out]; unfold wrap64; omega)
          go_upto_region 18 with fail
          refine yB ?_
          refine yM (.bool true) ?_
          refine yM (.bool true) ?_
          refine yM (.int .i64 (sumK f 3)) ?_
          refine yW (.pointer (some ⟨p, 2, none⟩)) ?_
          refine yW (.int .i64 f.sectors) ?_ (.inl ⟨by kernel_rfl, by intro W hW; rw [hW]; have c := qcell XF.out 2 (.int .i64 f.sectors) rfl; go_simp⟩)
          refine yW (.pointer (some ⟨p, 0, none⟩)) ?_
          refine yW (.int .i64 f.eye) ?_ (.inl ⟨by kernel_rfl, by intro W hW; rw [hW]; have c := qcell XF.out 0 (.int .i64 f.eye) rfl; go_simp⟩)
          refine yW (.pointer (some ⟨p, 1, none⟩)) ?_
          refine yW (.int .i64 f.rings) ?_ (.inl ⟨by kernel_rfl, by intro W hW; rw [hW]; have c := qcell XF.out 1 (.int .i64 f.rings) rfl; go_simp⟩)
          refine yW (.int .i64 er) ?_ (.inl ⟨by kernel_rfl, by intro W hW; rw [hW]; go_simp; exact (IntWalk.i64_left _).trans W1.out⟩)
          refine yW (.pointer (some ⟨p, 0, none⟩)) ?_
          refine yW (.int .i64 f.eye) ?_ (.inl ⟨by kernel_rfl, by intro W hW; rw [hW]; have c := qcell XF.out 0 (.int .i64 f.eye) rfl; go_simp⟩)
          refine yW (.pointer (some ⟨p, 1, none⟩)) ?_
          refine yW (.int .i64 f.rings) ?_ (.inl ⟨by kernel_rfl, by intro W hW; rw [hW]; have c := qcell XF.out 1 (.int .i64 f.rings) rfl; go_simp⟩)
          refine yW (.int .i64 er) ?_ (.inl ⟨by kernel_rfl, by intro W hW; rw [hW]; go_simp; exact (IntWalk.i64_left _).trans W1.out⟩)
          refine yW (.int .i64 ee) ?_ (.inl ⟨by kernel_rfl, by intro W hW; rw [hW]; go_simp; exact (IntWalk.i64_left _).trans W2.out⟩)
          refine yW (.pointer (some ⟨p, 0, none⟩)) ?_
          refine yW (.int .i64 f.eye) ?_ (.inl ⟨by kernel_rfl, by intro W hW; rw [hW]; have c := qcell XF.out 0 (.int .i64 f.eye) rfl; go_simp⟩)
          refine yW (.pointer (some ⟨p, 0, none⟩)) ?_
          refine yW (.int .i64 f.eye) ?_ (.inl ⟨by kernel_rfl, by intro W hW; rw [hW]; have c := qcell XF.out 0 (.int .i64 f.eye) rfl; go_simp⟩)
          refine yW (.int .i64 yy) ?_ (.inl ⟨by kernel_rfl, by intro W hW; rw [hW]; go_simp; exact (IntWalk.i64_left _).trans W3.out⟩)
          refine yW (.int .i64 (ee - yy)) ?_ (.inl ⟨by kernel_rfl, by intro W hW; rw [hW]; go_simp; exact (IntWalk.i64_left _).trans W4.out⟩)
          refine yW (.int .i64 (sumK f 3)) ?_ (.inl ⟨by kernel_rfl, by intro W hW; rw [hW]; go_simp; exact (IntWalk.i64_left _).trans W5.out⟩)
          refine yW (.bool true) ?_
          refine yM (.bool true) ?_
          refine yM (.bool true) ?_
          refine yE ?_
          go_wp2_with fail
          go_ret
          exact ⟨rfl, BF.out⟩
end Go.Proofs.YtmpkglokhchpiaaGreatDoor
namespace Go.Proofs.YtmpkglokhchpiaaGreatDoor
open Go.ChangeShapes Go.WideShapes Go.ChangeAt Go.RowKit

theorem Tryz.own : ownKnob Tryz.prog.godebug = none := by kernel_rfl
theorem Tryz.laidOut : laidOutB Tryz.prog = true := by kernel_rfl

theorem below_trodAll {H : Type} {enc : TypeId × Value → H} {P : Program} (hl : laidOutB P = true) {W W' : World} (hb : Below W.heap.size W W') :
    ∀ (ts : List TypeId) {vs : List Value} {ds : List (DataW H)} {ps : List MemPlace}, ts.all (fun t => P.readableRec t && decide (t < P.types.size)) = true → (∀ x ∈ ps, x.block < W.heap.size) →
      DataW.TrodAll enc P W 0 (fun _ => true) true ts vs ds ps → DataW.TrodAll enc P W' 0 (fun b => decide (b < W.heap.size)) true ts vs ds ps
  | [], [], [], _, _, _, h => h
  | [], _ :: _, _, _, _, _, h => h.elim
  | [], [], _ :: _, _, _, _, h => h.elim
  | _ :: _, [], _, _, _, _, h => h.elim
  | _ :: _, _ :: _, [], _, _, _, h => h.elim
  | t :: ts, v :: vs, d :: ds, ps, hr, hlt, h => by
    obtain ⟨p, q, h1, h2, rfl⟩ := h
    simp only [List.all_cons, Bool.and_eq_true, decide_eq_true_eq] at hr
    exact ⟨p, q, Below.trod hl hr.1.1 hr.1.2 h1 hb (fun x hx => hlt x (List.mem_append_left _ hx)), below_trodAll hl hb ts hr.2 (fun x hx => hlt x (List.mem_append_right _ hx)) h2, rfl⟩

theorem post_of_law {H : Type} {enc : TypeId × Value → H} {P : Program} (hl : laidOutB P = true) {t : TypeId} (ht : P.underlying t = some .bool) {f : Func} {s : ChangeSpec} {W W' : World} {args : Array Value} {ds : List (DataW H)} {ps : List MemPlace}
    (hv : s.vars = []) (hf : f.resultTypes = #[t]) (hr : f.params.toList.all (fun t => P.readableRec t && decide (t < P.types.size)) = true)
    (hW : DataW.Whole enc P f.params.toList s.vars false W args.toList ds [] ps) (hA : DataW.TrodAll enc P W 0 (fun _ => true) true f.params.toList args.toList ds ps)
    (hs : s.fn H (ds ++ []) = { results := [.lit (.bool true)], args := ds }) (hb : Below W.heap.size W W') : s.post enc P f false true false false W args (.bool true) W' := by
  refine ⟨ds, [], ps, [], ps, [], hW, ?_, ?_, ?_, hb.frame _, fun h => by cases h⟩
  · rw [hs, hf]
    exact trodAll_mk1 (shut_bool ht _)
  · rw [hs]
    exact below_trodAll hl hb _ hr hW.lt hA
  · rw [hs, hv]
    rfl

end Go.Proofs.YtmpkglokhchpiaaGreatDoor
namespace Go.Proofs.YtmpkglokhchpiaaGreatDoor
open Go.ChangeShapes Go.WideShapes Go.ChangeAt Go.RowKit

theorem i64_of_wf {x : Int} (h : (Lit.int .i64 x).wf = true) : I64 x := by
  simp [Lit.wf, IntKind.min, IntKind.max, IntKind.signed, IntKind.bits] at h
  unfold I64
  omega
theorem Tryz.cells3 : Tryz.prog.cellsOf 3 = 1 := by kernel_rfl
theorem Tryz.cells26 : Tryz.prog.cellsOf 26 = 1 := by kernel_rfl
section
variable {H : Type} {enc : TypeId × Value → H} {W : World} {fuel : Nat}

theorem open_ri1 {cs : List Value} {y : DataW H × List MemPlace} (h : DataW.trod enc Tryz.prog W 0 (fun _ => true) true fuel 26 cs = some y) : ∃ a c l, cs = [.slice a l.length c] ∧ RdI W a l.length c l ∧ ∀ z ∈ l, I64 z := by
  rcases open_ints Tryz.underlying26 Tryz.underlying3 Tryz.cells3 h with ⟨hcs, hx⟩ | ⟨a, n, c, zs, hcs, _, hl, hm, hz, hx, hcell, hwz⟩
  · exact ⟨none, 0, [], hcs, RdA.nil _ _, fun z hz => by cases hz⟩
  · simp only [if_true] at hz
    have hlen : (zs.take n).length = n := by rw [List.length_take]; omega
    refine ⟨some a, c, zs.take n, by rw [hlen]; exact hcs, ⟨by simp, by omega, hm, ?_⟩, fun z hz => i64_of_wf (hwz z (List.mem_of_mem_take hz))⟩
    by_cases hc0 : c = 0
    · exact .inl hc0
    · obtain ⟨ab, ao, spot⟩ := a
      have hspot : spot = none := by simpa [Addr.add] using World.cell?_spot (hcell 0 (by omega))
      subst hspot
      refine .inr ⟨ab, ao, rfl, fun i x hx => ?_⟩
      rw [List.getElem?_map, List.getElem?_take] at hx
      split at hx
      · rename_i hi
        have hiz : i < zs.length := by omega
        rw [List.getElem?_eq_getElem hiz, Option.map_some] at hx
        simp only [Option.some.injEq] at hx
        subst hx
        have hc := hcell i hiz
        rw [Addr.add_lit] at hc
        rw [hc, List.getD_eq_getElem?_getD, List.getElem?_eq_getElem hiz]
        rfl
      · cases hx
end
end Go.Proofs.YtmpkglokhchpiaaGreatDoor
namespace Go.Proofs.YtmpkglokhchpiaaGreatDoor
set_option linter.constructorNameAsVariable false
open Go.ChangeShapes Go.WideShapes Go.ChangeAt Go.RowKit

theorem Tryz.cells28 : Tryz.prog.cellsOf 28 = 4 := by kernel_rfl
section
variable {H : Type} {enc : TypeId × Value → H} {W : World}
set_option maxRecDepth 100000 in
theorem open_face {base : Nat} {v : Value} {d : DataW H} {p : List MemPlace} (hval : Value.okWide Tryz.prog W .any base 28 v)
    (h : DataW.Trod enc Tryz.prog W 0 (fun _ => true) true 28 v d p) : ∃ (f : FaceV) (a : Option Addr) (n : Nat), v = .agg (f.cells a n) ∧ RdI W a f.kinds.length n f.kinds := by
  obtain ⟨cs, rfl, hsz⟩ := okWide_struct Tryz.underlying28 hval
  obtain ⟨fuel, hf⟩ := h
  obtain ⟨y0, y1, y2, y3, n, _, hl, g0, g1, g2, g3⟩ := Go.Joins.trod_struct4 Tryz.underlying28 hf
  rw [Tryz.cells28] at hsz
  obtain ⟨l⟩ := cs
  match l, hsz with
  | [c0, c1, c2, c3], _ =>
    have g0' : DataW.trod enc Tryz.prog W 0 (fun _ => true) true n 3 (([c0, c1, c2, c3].drop 0).take (Tryz.prog.cellsOf 3)) = some y0 := g0
    have g1' : DataW.trod enc Tryz.prog W 0 (fun _ => true) true n 3 (([c0, c1, c2, c3].drop 1).take (Tryz.prog.cellsOf 3)) = some y1 := g1
    have g2' : DataW.trod enc Tryz.prog W 0 (fun _ => true) true n 3 (([c0, c1, c2, c3].drop 2).take (Tryz.prog.cellsOf 3)) = some y2 := g2
    have g3' : DataW.trod enc Tryz.prog W 0 (fun _ => true) true n 26 (([c0, c1, c2, c3].drop 3).take (Tryz.prog.cellsOf 26)) = some y3 := g3
    rw [Tryz.cells3] at g0' g1' g2'
    rw [Tryz.cells26] at g3'
    obtain ⟨x0, a0, _, _⟩ := DataW.trod_int Tryz.underlying3 g0'
    obtain ⟨x1, a1, _, _⟩ := DataW.trod_int Tryz.underlying3 g1'
    obtain ⟨x2, a2, _, _⟩ := DataW.trod_int Tryz.underlying3 g2'
    obtain ⟨a, c, l, a3, hr, _⟩ := open_ri1 g3'
    simp at a0 a1 a2 a3
    exact ⟨⟨x0, x1, x2, l⟩, a, c, by rw [a0, a1, a2, a3]; rfl, hr⟩
end
theorem gE3 : Tryz.prog.globalNamed "strconv.ErrSyntax" = some 3 := by kernel_rfl
theorem gE4 : Tryz.prog.globalNamed "strconv.ErrRange" = some 4 := by kernel_rfl
theorem gE3t : (Tryz.prog.globals[3]?).map (·.type) = some 109 := by kernel_rfl
theorem gE4t : (Tryz.prog.globals[4]?).map (·.type) = some 109 := by kernel_rfl
theorem gstar : "*" ++ "errors.errorString" = "*errors.errorString" := by decide
theorem rowE (u : TypeId) (h : Tryz.prog.typeName? 3 u = some "*errors.errorString") : u = 214 :=
  typeName_ptr_named (nm := "errors.errorString") (by rw [gstar]; kernel_rfl) (by kernel_rfl) (by decide) u (by rw [gstar]; exact h)
theorem Tryz.cells216 : Tryz.prog.cellsOf 216 = 1 := by kernel_rfl
theorem Tryz.cells9 : Tryz.prog.cellsOf 9 = 1 := by kernel_rfl
theorem env_of {W : World} (hL : laidMetH Tryz.prog Rows.stonesSumRow.laid W) (hs : W.ShapedOpen Tryz.prog) : EnvW W := by
  rw [MakeChecks.laidMetH_plain _ _ _ (by kernel_rfl)] at hL
  obtain ⟨a0, s0, hv0, _⟩ := laid_sentinel hL.tail.tail.tail.tail gE4 gE4t Tryz.underlying109 rowE Tryz.underlying214 Tryz.underlying216 rfl rfl Tryz.underlying9 Tryz.cells216 Tryz.cells9
  obtain ⟨a1, s1, hv1, _⟩ := laid_sentinel hL.tail.tail.tail.tail.tail gE3 gE3t Tryz.underlying109 rowE Tryz.underlying214 Tryz.underlying216 rfl rfl Tryz.underlying9 Tryz.cells216 Tryz.cells9
  refine ⟨Go.Proofs.cell_of_shapedOpen_int (zero := #[.int .i64 0]) (t := 3) hs (of_decide_eq_true (by kernel_rfl)) (by kernel_rfl) rfl (by kernel_rfl) (by kernel_rfl) Tryz.underlying3, ⟨.iface 214 (.pointer (some a1)), ?_, .inr ⟨_, _, rfl⟩⟩, ⟨.iface 214 (.pointer (some a0)), ?_, .inr ⟨_, _, rfl⟩⟩⟩
  · have h0 := World.var?_cell gE3 hv1 0
    simpa using h0
  · have h0 := World.var?_cell gE4 hv0 0
    simpa using h0
end Go.Proofs.YtmpkglokhchpiaaGreatDoor
namespace Go.Proofs.YtmpkglokhchpiaaGreatDoor
open Go.ChangeShapes Go.WideShapes Go.ChangeAt Go.RowKit

set_option maxRecDepth 100000 in
theorem stonesSum_lifted (os : Os) (started : os.Started) (H : Type) (enc : TypeId × Value → H) (F : Stop.Interp) :
    ReturnsInHanded {} Tryz.checked os 4 .any ((OpenSpec.ofChange Rows.stonesSumSpec).preRow enc Tryz.prog Tryz.f4 Rows.stonesSumRow.domain false Rows.stonesSumRow.laid) (((OpenSpec.ofChange Rows.stonesSumSpec).at F).post enc Tryz.prog Tryz.f4 false true false false) := by
  refine returnsInHanded_of_row (C := Tryz.checked) (s := OpenSpec.ofChange Rows.stonesSumSpec) Tryz.own started (by kernel_rfl) Tryz.func4
    (ChangeSpec.witness_shaped (enc := enc) (C := Tryz.checked) (os := os) (X := fun w _ => laidMetH Tryz.prog Rows.stonesSumRow.laid w) false (World.laidAll Tryz.prog os Rows.stonesSumRow.laid) #[.agg #[.int .i64 0, .int .i64 0, .int .i64 0, .slice none 0 0], .int .i64 0] 8 (World.laidAll_os _ _ _)
      (World.shaped_of_ZipB (by kernel_rfl) (by kernel_rfl)) (by kernel_rfl) (by kernel_rfl) (by kernel_rfl)
      (by rw [MakeChecks.laidMetH_plain _ _ _ (by kernel_rfl)]; exact laidMet_laidAll _ (by kernel_rfl) (by kernel_rfl))) ?_
  intro W base args ds gs before hval0 hW hcnd _ _ hL hsh _
  have hval : ∀ (j : Nat) t v, Tryz.f4.params[j]? = some t → args[j]? = some v → Value.okWide Tryz.prog W .any base t v := hval0
  have hW' := hW
  obtain ⟨p, q, hA0, hV, rfl, hfz, hnd⟩ := hW
  have hA : DataW.TrodAll enc Tryz.prog W 0 (fun _ => true) true Tryz.f4.params.toList args.toList ds p := hA0
  have hA1 := hA
  rw [Tryz.params4] at hA hval
  obtain ⟨v0, v1, d0, d1, p0, p1, rfl, rfl, rfl, h0, h1⟩ := trodAll_two hA
  obtain ⟨rfl, rfl⟩ := trodVars_none hV
  obtain ⟨f, fa, fn, rfl, fr⟩ := open_face (hval 0 28 v0 rfl rfl) h0
  obtain ⟨b, rfl, _, _, bw⟩ := open_int Tryz.underlying3 (hval 1 3 v1 rfl rfl) h1
  clear hA0 hval0
  simp only [List.append_nil] at hW'
  refine (sum_any f fa fn b W (env_of hL hsh) fr).mono fun e W' ⟨he, hb⟩ => ?_
  subst he
  exact ⟨_, rfl, post_of_law Tryz.laidOut Tryz.underlying4 rfl (by kernel_rfl) (by kernel_rfl) hW' hA1 rfl hb⟩
theorem stonesSum_said : Rows.StonesSumSaid :=
  OpenClaim.holds_of_cond 4 Tryz.f4 rfl rfl rfl rfl rfl rfl rfl ⟨rfl, rfl, rfl, rfl, rfl⟩ rfl rfl rfl rfl rfl (by kernel_rfl) Tryz.func4 (by kernel_rfl)
    (of_decide_eq_true (by kernel_rfl)) (by unfold Func.isWrapper; first | (rw [if_pos (by decide +kernel)]; kernel_rfl) | (rw [if_neg (by decide +kernel)]; exact ⟨rfl, rfl⟩))
    (fun os started H enc _ F => by rw [OpenClaim.pre_eq_preRow]; exact stonesSum_lifted os started H enc F)
theorem stonesSum_plain (f : FuncId) (fn : Func) (hf : Tryz.pinned.checked.prog.funcNamed "millrind/millrindlaw01.StonesSum" = some f) (hfn : Tryz.pinned.checked.prog.funcs[f]? = some fn) :
    true = Tryz.pinned.checked.prog.looks [] ∧ ∀ (j : Nat) t, fn.params[j]? = some t → Tryz.pinned.checked.prog.wantsStandIn t = false := by
  obtain rfl : f = 4 := Option.some.inj ((show Tryz.prog.funcNamed "millrind/millrindlaw01.StonesSum" = some 4 by kernel_rfl).symm.trans hf) |>.symm
  obtain rfl : fn = Tryz.f4 := (Option.some.inj (Tryz.func4.symm.trans hfn)).symm
  refine ⟨by kernel_rfl, fun j t ht => ?_⟩
  rw [Tryz.params4] at ht
  have hm := Array.mem_of_getElem? ht
  have hall : (#[28, 3] : Array TypeId).all (fun t => Tryz.prog.wantsStandIn t == false) = true := by kernel_rfl
  have := Array.all_eq_true'.1 hall t hm
  have h2 : Tryz.prog.wantsStandIn t = false := by simpa using this
  exact h2
theorem stonesSum_holds : Rows.StonesSumCardSaid :=
  Claim7.holds_tied_plain_at .later [] _ _ _ _ stonesSum_said (fun _ h => by cases h) (by kernel_rfl) (fun _ h => by cases h) stonesSum_row_tie rfl ⟨rfl, rfl⟩ (by kernel_rfl) rfl stonesSum_plain (by kernel_rfl)
#print axioms stonesSum_holds
end Go.Proofs.YtmpkglokhchpiaaGreatDoor
