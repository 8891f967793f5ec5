/- Plain laws of reading a note; the program's length. -/
import Derived.Test.YtpdmlklnbjegpaaGreatDec2
import Derived.Test.YtpdmlklnbjegpaaGreatEnc4b
namespace Go.Proofs.YtpdmlklnbjegpaaGreat
open Go.RowKit

theorem set_ahead : ∀ (xs : List Int) (z : Int), xs.length < 15 → (noteA (mkN xs [] []) none 0).setIfInBounds xs.length (.int .i64 z) = noteA (mkN (xs ++ [z]) [] []) none 0
  | [], _, _ => rfl
  | [_], _, _ => rfl
  | [_, _], _, _ => rfl
  | [_, _, _], _, _ => rfl
  | [_, _, _, _], _, _ => rfl
  | [_, _, _, _, _], _, _ => rfl
  | [_, _, _, _, _, _], _, _ => rfl
  | [_, _, _, _, _, _, _], _, _ => rfl
  | [_, _, _, _, _, _, _, _], _, _ => rfl
  | [_, _, _, _, _, _, _, _, _], _, _ => rfl
  | [_, _, _, _, _, _, _, _, _, _], _, _ => rfl
  | [_, _, _, _, _, _, _, _, _, _, _], _, _ => rfl
  | [_, _, _, _, _, _, _, _, _, _, _, _], _, _ => rfl
  | [_, _, _, _, _, _, _, _, _, _, _, _, _], _, _ => rfl
  | [_, _, _, _, _, _, _, _, _, _, _, _, _, _], _, _ => rfl
  | _ :: _ :: _ :: _ :: _ :: _ :: _ :: _ :: _ :: _ :: _ :: _ :: _ :: _ :: _ :: _, _, h => absurd h (by simp only [List.length_cons]; omega)
theorem set_behind (xs ys : List Int) (sa : Option Addr) (sc : Nat) : ∀ (zs : List Int) (z : Int), zs.length < 3 → (noteA (mkN xs ys zs) sa sc).setIfInBounds (16 + zs.length) (.int .i64 z) = noteA (mkN xs ys (zs ++ [z])) sa sc
  | [], _, _ => rfl
  | [_], _, _ => rfl
  | [_, _], _, _ => rfl
  | _ :: _ :: _ :: _, _, h => absurd h (by simp only [List.length_cons]; omega)
theorem set_strokes (xs ys ys' : List Int) (sa sa' : Option Addr) (sc sc' m : Nat) (h : m = ys'.length) : (noteA (mkN xs ys []) sa sc).setIfInBounds 15 (.slice sa' m sc') = noteA (mkN xs ys' []) sa' sc' := by
  subst h
  rfl
theorem many_succ {f : List UInt8 → Option (Int × List UInt8)} {k : Nat} {l t t' : List UInt8} {xs : List Int} {z : Int} (h : many f k l = some (xs, t)) (h2 : f t = some (z, t')) : many f (k + 1) l = some (xs ++ [z], t') := by
  rw [many, h]
  simp only [h2]
theorem many_stop {f : List UInt8 → Option (Int × List UInt8)} {l : List UInt8} {k : Nat} (h : many f k l = none) : ∀ j, k ≤ j → many f j l = none := by
  intro j hj
  induction j with
  | zero => rw [show (0 : Nat) = k by omega]; exact h
  | succ j ih =>
    by_cases hk : k = j + 1
    · rw [← hk]; exact h
    · rw [many, ih (by omega)]
theorem many_fail {f : List UInt8 → Option (Int × List UInt8)} {k : Nat} {l t : List UInt8} {xs : List Int} (h : many f k l = some (xs, t)) (h2 : f t = none) (j : Nat) (hj : k < j) : many f j l = none := by
  refine many_stop (k := k + 1) ?_ j hj
  rw [many, h]
  simp only [h2]
/-- How many elements a list has: as many bytes at least must be left. -/
def lenF (f : List UInt8 → Option (Int × List UInt8)) (l : List UInt8) : Option (Nat × List UInt8) := match f l with
  | some (c, t) => if 0 ≤ c ∧ c ≤ t.length then some (c.toNat, t) else none
  | none => none
theorem noteF_1 {f : List UInt8 → Option (Int × List UInt8)} {l : List UInt8} (h : many f 15 l = none) : noteF f l = none := by
  unfold noteF; rw [h]
theorem noteF_2 {f : List UInt8 → Option (Int × List UInt8)} {l t : List UInt8} {x : List Int} (h : many f 15 l = some (x, t)) (h2 : lenF f t = none) : noteF f l = none := by
  unfold noteF lenF at *
  rw [h]
  cases e : f t with
  | none => simp only [e]
  | some p =>
    obtain ⟨c, t1⟩ := p
    rw [e] at h2
    simp only at h2
    simp only [e]
    split at h2
    · cases h2
    · rename_i h3; rw [if_neg h3]
theorem noteF_3 {f : List UInt8 → Option (Int × List UInt8)} {l t t1 : List UInt8} {x : List Int} {k : Nat} (h : many f 15 l = some (x, t)) (h2 : lenF f t = some (k, t1)) : noteF f l = match many f k t1 with
    | some (y, t2) => match many f 3 t2 with
      | some (z, t3) => some (mkN x y z, t3)
      | none => none
    | none => none := by
  unfold noteF lenF at *
  rw [h]
  cases e : f t with
  | none => rw [e] at h2; cases h2
  | some p =>
    obtain ⟨c, t1'⟩ := p
    rw [e] at h2
    simp only at h2
    split at h2
    · rename_i h3
      simp only [Option.some.injEq, Prod.mk.injEq] at h2
      obtain ⟨rfl, rfl⟩ := h2
      simp only [e, if_pos h3]
      rfl
    · cases h2

set_option maxHeartbeats 4000000 in
theorem length_any (rp : Nat) (l : List UInt8) (a : Option Addr) (n c : Nat) (w : World) (h : RdP w rp l a n c) :
    Calls Tryz.prog 125 #[.pointer (some ⟨rp, 0, none⟩)] w fun e w' => (∃ (k : Nat) (t : List UInt8) (a2 : Option Addr) (n2 c2 : Nat), lenF numP l = some (k, t) ∧ k ≤ t.length ∧ e = .returned (.int .i64 k) ∧ RdP w' rp t a2 n2 c2 ∧ Same (fun k => k = rp) w w' ∧ (∀ W, RdB W a n c l → RdB W a2 n2 c2 t)) ∨
      (lenF numP l = none ∧ e = .panicked [tornP] ∧ Same (fun k => k = rp) w w') := by
  go_enter Tryz.func125, Tryz.ntmps125
  go_wp2_with fail
  refine (number_any rp l a n c w h).mono ?_
  rintro e w1 (⟨z, t, a2, n2, c2, h1, rfl, h2, h3⟩ | ⟨h1, rfl, h3⟩)
  · obtain ⟨h3, h4⟩ := h3
    have c0 : w1.cell? ⟨rp, 0, none⟩ = some (.slice a2 n2 c2) := cell_of h2.e 0 _ rfl
    have hn : t.length = n2 := by have := h2.r.1; simpa using this
    have H1 := Lib.hid h1; clear h1
    have H2 := Lib.hid h2; clear h2
    have H3 := Lib.hid h3; clear h3
    have H4 := Lib.hid h4; clear h4
    have HN := Lib.hid hn; clear hn
    by_cases hz : z < 0
    · have HF := Lib.hid (show lenF numP l = none by unfold lenF; rw [H1.out]; simp only; rw [if_neg (by omega)])
      have hz1 : decide (z < 0) = true := by simp [hz]
      go_wp2_with fail
      exact ⟨rfl, .inr ⟨HF.out, rfl, H3.out⟩⟩
    · have hz1 : decide (z < 0) = false := by simp; omega
      by_cases hc : (n2 : Int) < z
      · have HF := Lib.hid (show lenF numP l = none by unfold lenF; rw [H1.out]; simp only; rw [if_neg (by rw [HN.out]; omega)])
        have hc1 : decide ((n2 : Int) < z) = true := by simp [hc]
        go_wp2_with fail
        exact ⟨rfl, .inr ⟨HF.out, rfl, H3.out⟩⟩
      · have HF := Lib.hid (show lenF numP l = some (z.toNat, t) by unfold lenF; rw [H1.out]; simp only; rw [if_pos (by rw [HN.out]; omega)])
        have hc1 : decide ((n2 : Int) < z) = false := by simp; omega
        obtain ⟨k, rfl⟩ : ∃ k : Nat, z = (k : Int) := ⟨z.toNat, by omega⟩
        go_wp2_with fail
        go_ret
        exact .inl ⟨k, t, a2, n2, c2, HF.out, by rw [HN.out]; omega, rfl, H2.out, H3.out, H4.out⟩
  · have H1 := Lib.hid h1; clear h1
    have H3 := Lib.hid h3; clear h3
    go_wp2_with fail
    exact ⟨rfl, .inr ⟨by unfold lenF; rw [H1.out], rfl, H3.out⟩⟩
end Go.Proofs.YtpdmlklnbjegpaaGreat
