/- The reference's reader: signed, Number. -/
import Derived.Test.YtpdmlklnbjegpaaGreatDec4
import Derived.Deep.QuietTactic
import Derived.BigQuiet
namespace Go.Proofs.YtpdmlklnbjegpaaGreat
open Go.RowKit

section
variable {W W' : World} {rp : Nat} {l : List UInt8} {a : Option Addr} {n c at_ : Nat} {bad : Bool}
theorem Same.refl (S : Nat → Prop) (W : World) : Same S W W := ⟨rfl, rfl, rfl, Nat.le_refl _, fun _ _ _ => rfl⟩
end
theorem numR_none {l : List UInt8} (h : decR 0 0 l = none) : numR l = none := by unfold numR; rw [h]
theorem numR_some {l t : List UInt8} {u : Nat} (h : decR 0 0 l = some (u, t)) (hu : u < 9223372036854775808) : numR l = some (zag u, t) := by unfold numR; rw [h]; simp only; rw [if_pos hu]
theorem numR_big {l t : List UInt8} {u : Nat} (h : decR 0 0 l = some (u, t)) (hu : ¬ u < 9223372036854775808) : numR l = none := by unfold numR; rw [h]; simp only; rw [if_neg hu]
theorem unit_of (i : Nat) (hi : i ≤ 8) : IntKind.u64.wrap (((128 ^ i : Nat) : Int) * 128) = ((128 ^ (i + 1) : Nat) : Int) := by
  have hp : 128 ^ i ≤ 128 ^ 8 := Nat.pow_le_pow_right (by omega) hi
  have hp8 : 128 ^ 8 = 72057594037927936 := by decide
  rw [IntKind.wrap_u64, Nat.pow_succ]
  omega
theorem sum_of (i v y : Nat) (hi : i ≤ 9) (hv : v < 128 ^ i) (hy : y < 128) (h9 : i = 9 → y ≤ 1) : IntKind.u64.wrap ((v : Int) + IntKind.u64.wrap ((y : Int) * ((128 ^ i : Nat) : Int))) = ((v + y * 128 ^ i : Nat) : Int) ∧ v + y * 128 ^ i < 18446744073709551616 := by
  have hp9 : 128 ^ 9 = 9223372036854775808 := by decide
  have hp8 : 128 ^ 8 = 72057594037927936 := by decide
  have hm : y * 128 ^ i < 9223372036854775809 := by
    by_cases h : i = 9
    · have := h9 h
      subst h
      rw [hp9]
      omega
    · have hp : 128 ^ i ≤ 128 ^ 8 := Nat.pow_le_pow_right (by omega) (by omega)
      have h2 : y * 128 ^ i ≤ 127 * 128 ^ i := Nat.mul_le_mul_right _ (by omega)
      omega
  have hvp : v < 9223372036854775808 := by
    have hp : 128 ^ i ≤ 128 ^ 9 := Nat.pow_le_pow_right (by omega) hi
    rw [hp9] at hp
    exact Nat.lt_of_lt_of_le hv hp
  have e : (y : Int) * ((128 ^ i : Nat) : Int) = ((y * 128 ^ i : Nat) : Int) := by rw [Int.natCast_mul]
  rw [e]
  generalize y * 128 ^ i = z at *
  simp only [IntKind.wrap_u64]
  omega
end Go.Proofs.YtpdmlklnbjegpaaGreat
