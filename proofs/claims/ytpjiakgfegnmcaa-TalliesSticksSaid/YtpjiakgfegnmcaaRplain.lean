/- The plain law of a crash: what the reference keeps is what the program keeps. -/
import Derived.Test.YtpjiakgfegnmcaaHplain
namespace Go.Proofs.Ytpjiakgfegnmcaa
open Go.RowKit

/-- What the reference holds of both journals' pending bytes in a crash. -/
def leftOf (SP FP : List UInt8) (stock foil : Nat) (flip : Int) : List UInt8 :=
  if 0 ≤ flip then flipAt (SP.take stock ++ FP.take foil) (flip.toNat / 8) (flip.toNat % 8) else SP.take stock ++ FP.take foil
theorem leftOf_len (SP FP : List UInt8) (stock foil : Nat) (flip : Int) (h1 : stock ≤ SP.length) (h2 : foil ≤ FP.length) : (leftOf SP FP stock foil flip).length = stock + foil := by
  unfold leftOf
  split <;> simp [flipAt_len] <;> omega
theorem take_cat (D P : List UInt8) (m : Nat) : (D ++ P).take (D.length + m) = D ++ P.take m := by
  rw [List.take_append, List.take_of_length_le (by omega), Nat.add_sub_cancel_left]
theorem left_stock (SD SP FP : List UInt8) (stock foil : Nat) (flip : Int) (h1 : stock ≤ SP.length) (h2 : foil ≤ FP.length) :
    SD ++ (leftOf SP FP stock foil flip).take stock = crashS (SD ++ SP) SD.length stock flip := by
  have hl : (SP.take stock).length = stock := by rw [List.length_take]; omega
  unfold leftOf crashS
  by_cases hf : 0 ≤ flip
  · rw [if_pos hf]
    by_cases hs : flip.toNat / 8 < stock
    · rw [if_pos ⟨hf, hs⟩, flipAt_left _ _ _ _ (by rw [hl]; exact hs), List.take_left' (by rw [flipAt_len, hl]), take_cat, flipAt_right _ _ _ _ (by omega), Nat.add_sub_cancel_left]
    · rw [if_neg (by omega), flipAt_right _ _ _ _ (by rw [hl]; omega), List.take_left' hl, take_cat]
  · rw [if_neg hf, if_neg (by omega), List.take_left' hl, take_cat]
theorem left_foil (SP FD FP : List UInt8) (stock foil : Nat) (flip : Int) (h1 : stock ≤ SP.length) (h2 : foil ≤ FP.length) :
    FD ++ (leftOf SP FP stock foil flip).drop stock = crashF (FD ++ FP) FD.length stock foil flip := by
  have hl : (SP.take stock).length = stock := by rw [List.length_take]; omega
  unfold leftOf crashF
  by_cases hf : 0 ≤ flip
  · rw [if_pos hf]
    by_cases hs : flip.toNat / 8 < stock
    · rw [if_neg (by omega), flipAt_left _ _ _ _ (by rw [hl]; exact hs), List.drop_left' (by rw [flipAt_len, hl]), take_cat]
    · rw [if_pos ⟨hf, hs⟩, flipAt_right _ _ _ _ (by rw [hl]; omega), List.drop_left' hl, take_cat, flipAt_right _ _ _ _ (by omega), hl]
      congr 2
      omega
  · rw [if_neg hf, if_neg (by omega), List.drop_left' hl, take_cat]
end Go.Proofs.Ytpjiakgfegnmcaa
