/- Join of the reference. -/
import Derived.Test.YtpdmlklnbjegpaaGreatJoin
namespace Go.Proofs.YtpdmlklnbjegpaaGreat
open Go.RowKit

theorem sOf_snoc (d : List (List UInt8)) (b : List UInt8) : sOf (d ++ [b]) = sOf d + (b.length + 2) := by simp [sOf]

/-- The tally at two places of two journals. -/
def bodyAt (st : List UInt8) (S : Nat) : List UInt8 := (st.drop (S + 2)).take (atN st S)
def CanJoin (st fo : List UInt8) (S F : Nat) : Prop :=
  S + 2 ≤ st.length ∧ F + 4 ≤ fo.length ∧ atN st S ≤ 8192 ∧ S + 2 + atN st S ≤ st.length ∧ atN fo F = atN st S ∧ atN fo (F + 2) = chk (bodyAt st S)

theorem bodyAt_len {st : List UInt8} {S : Nat} (h : S + 2 + atN st S ≤ st.length) : (bodyAt st S).length = atN st S := by
  simp only [bodyAt, List.length_take, List.length_drop]; omega

theorem canJoin_iff (st fo : List UInt8) (S F : Nat) : CanJoin st fo S F ↔
    (2 ≤ (st.drop S).length ∧ 4 ≤ (fo.drop F).length ∧ atN (st.drop S) 0 ≤ 8192 ∧ atN (st.drop S) 0 + 2 ≤ (st.drop S).length ∧ (fo.drop F).take 4 = foilOf (((st.drop S).drop 2).take (atN (st.drop S) 0))) := by
  have hb : ((st.drop S).drop 2).take (atN (st.drop S) 0) = bodyAt st S := by rw [List.drop_drop, atN_drop, bodyAt, Nat.add_zero]
  rw [hb, atN_drop, Nat.add_zero]
  simp only [List.length_drop]
  constructor
  · rintro ⟨h1, h2, h3, h4, h5, h6⟩
    refine ⟨by omega, by omega, h3, by omega, ?_⟩
    rw [foil_iff (by simp only [List.length_drop]; omega) (by rw [bodyAt_len h4]; omega), bodyAt_len h4, atN_drop, atN_drop]
    exact ⟨h5, h6⟩
  · rintro ⟨h1, h2, h3, h4, h5⟩
    have h4' : S + 2 + atN st S ≤ st.length := by omega
    rw [foil_iff (by simp only [List.length_drop]; omega) (by rw [bodyAt_len h4']; omega), bodyAt_len h4', atN_drop, atN_drop] at h5
    exact ⟨by omega, by omega, h3, h4', h5.1, h5.2⟩
theorem join_stop {st fo : List UInt8} {S F : Nat} (h : ¬ CanJoin st fo S F) : joinOf (st.drop S) (fo.drop F) = [] := joinOf_no (fun h' => h ((canJoin_iff st fo S F).2 h'))
theorem join_go {st fo : List UInt8} {S F : Nat} (h : CanJoin st fo S F) : joinOf (st.drop S) (fo.drop F) = bodyAt st S :: joinOf (st.drop (S + (2 + atN st S))) (fo.drop (F + 4)) := by
  obtain ⟨h1, h2, h3, h4, h5⟩ := (canJoin_iff st fo S F).1 h
  rw [joinOf_yes h1 h2 h3 h4 h5]
  simp only [List.drop_drop, atN_drop, Nat.add_zero, bodyAt]
  rw [show S + (atN st S + 2) = S + (2 + atN st S) by omega]

end Go.Proofs.YtpdmlklnbjegpaaGreat
