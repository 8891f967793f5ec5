/- The plain law about both halves: tallies are joined to the same bytes; shorter journals tell a beginning; with one bit inverted the journals tell what is ahead of it. -/
import Derived.Test.YtpdmlklnbjegpaaGreatCrash2
namespace Go.Proofs.YtpdmlklnbjegpaaGreat
open Go.RowKit

def csOf (l : List (List UInt8)) : List UInt8 := (l.map stockOf).flatten
def cfOf (l : List (List UInt8)) : List UInt8 := (l.map foilOf).flatten
theorem csOf_cons (x : List UInt8) (l : List (List UInt8)) : csOf (x :: l) = stockOf x ++ csOf l := by simp [csOf]
theorem cfOf_cons (x : List UInt8) (l : List (List UInt8)) : cfOf (x :: l) = foilOf x ++ cfOf l := by simp [cfOf]
theorem csOf_append (l m : List (List UInt8)) : csOf (l ++ m) = csOf l ++ csOf m := by simp [csOf]
theorem cfOf_append (l m : List (List UInt8)) : cfOf (l ++ m) = cfOf l ++ cfOf m := by simp [cfOf]
theorem cfOf_len (l : List (List UInt8)) : (cfOf l).length = 4 * l.length := by
  induction l with
  | nil => rfl
  | cons x l ih => rw [cfOf_cons, List.length_append, ih, foilOf_len, List.length_cons]; omega
theorem csOf_len (l : List (List UInt8)) : (csOf l).length = sOf l := by
  induction l with
  | nil => rfl
  | cons x l ih => rw [csOf_cons, List.length_append, ih, stockOf_len]; simp [sOf]

theorem atN_two (n : Nat) (hn : n < 65536) (S : List UInt8) : atN (two n ++ S) 0 = n := by
  simp only [atN, two, List.cons_append, List.nil_append, List.getElem?_cons_zero, List.getElem?_cons_succ, Option.getD_some, UInt8.toNat_ofNat', Nat.zero_add]
  omega
theorem atN_stock (x S : List UInt8) (hx : x.length < 65536) : atN (stockOf x ++ S) 0 = x.length := by
  rw [stockOf, List.append_assoc]
  exact atN_two _ hx _
theorem body_stock (x S : List UInt8) : ((stockOf x ++ S).drop 2).take x.length = x := by
  rw [stockOf, List.append_assoc, show (two x.length ++ (x ++ S)).drop 2 = x ++ S from rfl, List.take_left']
  rfl

/-- A whole tally at the head is told. -/
theorem join_cons (x S F : List UInt8) (hx : x.length ≤ 8192) : joinOf (stockOf x ++ S) (foilOf x ++ F) = x :: joinOf S F := by
  have e1 := atN_stock x S (by omega)
  have e2 := body_stock x S
  rw [joinOf_yes (by rw [List.length_append, stockOf_len]; omega) (by rw [List.length_append, foilOf_len]; omega) (by rw [e1]; exact hx) (by rw [e1, List.length_append, stockOf_len]; omega) (by
    rw [e1, e2, List.take_left' (foilOf_len x)]), e1, e2]
  rw [show x.length + 2 = (stockOf x).length from (stockOf_len x).symm, List.drop_left, show 4 = (foilOf x).length from rfl, List.drop_left]
theorem join_app (l : List (List UInt8)) (hl : ∀ x ∈ l, x.length ≤ 8192) (S F : List UInt8) : joinOf (csOf l ++ S) (cfOf l ++ F) = l ++ joinOf S F := by
  induction l with
  | nil => rfl
  | cons x l ih =>
    rw [csOf_cons, cfOf_cons, List.append_assoc, List.append_assoc, join_cons x _ _ (hl x (List.mem_cons_self ..)), ih (fun y hy => hl y (List.mem_cons_of_mem _ hy))]
    rfl
theorem join_none (F : List UInt8) : joinOf [] F = [] := joinOf_no (by simp)
theorem join_all (l : List (List UInt8)) (hl : ∀ x ∈ l, x.length ≤ 8192) : joinOf (csOf l) (cfOf l) = l := by
  have h := join_app l hl [] []
  simpa [join_none] using h

theorem take_over (A B : List UInt8) (n : Nat) (h : A.length ≤ n) : (A ++ B).take n = A ++ B.take (n - A.length) := by rw [List.take_append, List.take_of_length_le h]
/-- Shorter journals tell a beginning. -/
theorem join_cut : ∀ (l : List (List UInt8)) (_ : ∀ x ∈ l, x.length ≤ 8192) (a b : Nat), ∃ k, k ≤ l.length ∧ joinOf ((csOf l).take a) ((cfOf l).take b) = l.take k
  | [], _, a, b => ⟨0, Nat.le_refl _, by simp [csOf, join_none]⟩
  | x :: l, hl, a, b => by
    have hx := hl x (List.mem_cons_self ..)
    by_cases h : x.length + 2 ≤ a ∧ 4 ≤ b
    · obtain ⟨k, hk, e⟩ := join_cut l (fun y hy => hl y (List.mem_cons_of_mem _ hy)) (a - (x.length + 2)) (b - 4)
      refine ⟨k + 1, by simp; omega, ?_⟩
      rw [csOf_cons, cfOf_cons, take_over _ _ _ (by rw [stockOf_len]; omega), take_over _ _ _ (by rw [foilOf_len]; omega), stockOf_len, foilOf_len, join_cons x _ _ hx, e]
      rfl
    · refine ⟨0, Nat.zero_le _, ?_⟩
      apply joinOf_no
      rintro ⟨h1, h2, h3, h4, h5⟩
      rw [List.length_take] at h1 h2 h4
      have ha : 2 ≤ a := by omega
      have hb : 4 ≤ b := by omega
      have e1 : atN ((csOf (x :: l)).take a) 0 = x.length := by
        rw [← atN_stock x (csOf l) (by omega), ← csOf_cons]
        simp only [atN, List.getElem?_take]
        rw [if_pos (by omega), if_pos (by omega)]
      rw [e1] at h4
      omega

/-! One inverted bit. -/
theorem flip_val (v : UInt8) (b : Nat) (hb : b < 8) : (v ^^^ UInt8.ofNat (2 ^ b)).toNat = v.toNat + 2 ^ b ∨ (v ^^^ UInt8.ofNat (2 ^ b)).toNat + 2 ^ b = v.toNat := by
  have h : ∀ v : Fin 256, ∀ b : Fin 8, v.val ^^^ 2 ^ b.val = v.val + 2 ^ b.val ∨ (v.val ^^^ 2 ^ b.val) + 2 ^ b.val = v.val := by decide +kernel
  have h1 := h ⟨v.toNat, v.toNat_lt⟩ ⟨b, hb⟩
  have h2 : 2 ^ b < 256 := by
    have : 2 ^ b ≤ 2 ^ 7 := Nat.pow_le_pow_right (by omega) (by omega)
    omega
  rw [UInt8.toNat_xor, UInt8.toNat_ofNat', Nat.mod_eq_of_lt h2]
  exact h1
theorem two_pow_bd (b : Nat) (hb : b < 8) : 1 ≤ 2 ^ b ∧ 2 ^ b ≤ 128 := by
  constructor
  · exact Nat.one_le_two_pow
  · have : 2 ^ b ≤ 2 ^ 7 := Nat.pow_le_pow_right (by omega) (by omega)
    omega
theorem flipAt_at (l : List UInt8) (i b j : Nat) : (flipAt l i b)[j]?.getD 0 = if i = j ∧ i < l.length then (l[i]?.getD 0) ^^^ UInt8.ofNat (2 ^ b) else l[j]?.getD 0 := by
  unfold flipAt
  rw [List.getElem?_set]
  by_cases h : i = j
  · subst h
    by_cases h2 : i < l.length
    · simp [h2]
    · simp [h2]
  · simp [h]
theorem flipAt_left (l m : List UInt8) (i b : Nat) (h : i < l.length) : flipAt (l ++ m) i b = flipAt l i b ++ m := by
  unfold flipAt
  rw [List.getElem?_append_left h, List.set_append_left _ _ h]
theorem flipAt_right (l m : List UInt8) (i b : Nat) (h : l.length ≤ i) : flipAt (l ++ m) i b = l ++ flipAt m (i - l.length) b := by
  unfold flipAt
  rw [List.getElem?_append_right h, List.set_append_right _ _ h]

/-- The check of a body with one inverted bit is another one. -/
theorem chkTo_same (x y : List UInt8) (j : Nat) (h : ∀ k, k < j → x[k]?.getD 0 = y[k]?.getD 0) : ∀ k, k ≤ j → chkTo x k = chkTo y k
  | 0, _ => rfl
  | k+1, hk => by simp only [chkTo]; rw [chkTo_same x y j h k (by omega), h k (by omega)]
theorem chkTo_diff (x : List UInt8) (j b : Nat) (hj : j < x.length) : ∀ m, (chkTo (flipAt x j b) (j + 1 + m) - chkTo x (j + 1 + m) - ((j : Int) + 1) * ((((x[j]?.getD 0) ^^^ UInt8.ofNat (2 ^ b)).toNat : Int) - ((x[j]?.getD 0).toNat : Int))) % 65521 = 0
  | 0 => by
    have e := chkTo_same (flipAt x j b) x j (fun k hk => by rw [flipAt_at, if_neg (by omega)]) j (Nat.le_refl _)
    have h1 := flipAt_at x j b j
    rw [if_pos ⟨rfl, hj⟩] at h1
    simp only [chkTo]
    rw [e, h1, Int.mul_sub]
    omega
  | m+1 => by
    have ih := chkTo_diff x j b hj m
    have h1 := flipAt_at x j b (j + 1 + m)
    rw [if_neg (by omega)] at h1
    rw [show j + 1 + (m + 1) = (j + 1 + m) + 1 by omega]
    simp only [chkTo]
    rw [h1]
    generalize chkTo (flipAt x j b) (j + 1 + m) = A at *
    generalize chkTo x (j + 1 + m) = B at *
    generalize (((j + 1 + m : Nat) : Int) + 1) * ((x[j + 1 + m]?.getD 0).toNat : Int) = C at *
    generalize ((j : Int) + 1) * ((((x[j]?.getD 0) ^^^ UInt8.ofNat (2 ^ b)).toNat : Int) - ((x[j]?.getD 0).toNat : Int)) = D at *
    omega
theorem chk_flip (x : List UInt8) (j b : Nat) (hj : j < x.length) (hb : b < 8) (hx : x.length ≤ 500) : chk (flipAt x j b) ≠ chk x := by
  intro h
  have h1 := chkTo_diff x j b hj (x.length - (j + 1))
  rw [show j + 1 + (x.length - (j + 1)) = x.length by omega] at h1
  have h2 := chk_eq (flipAt x j b)
  have h3 := chk_eq x
  rw [flipAt_len, h, h3] at h2
  rw [← h2, Int.sub_self, Int.zero_sub] at h1
  obtain ⟨b1, b2⟩ := two_pow_bd b hb
  have h4 := flip_val (x[j]?.getD 0) b hb
  generalize ((x[j]?.getD 0) ^^^ UInt8.ofNat (2 ^ b)).toNat = P at *
  generalize (x[j]?.getD 0).toNat = Q at *
  generalize 2 ^ b = T at *
  have hm1 : 1 ≤ (j + 1) * T := Nat.mul_pos (by omega) (by omega)
  have hm2 : (j + 1) * T ≤ 500 * 128 := Nat.mul_le_mul (by omega) b2
  rcases h4 with h4 | h4
  · have e : ((j : Int) + 1) * ((P : Int) - (Q : Int)) = (((j + 1) * T : Nat) : Int) := by
      rw [show (P : Int) - (Q : Int) = (T : Int) by omega]; push_cast; rfl
    rw [e] at h1
    omega
  · have e : ((j : Int) + 1) * ((P : Int) - (Q : Int)) = -(((j + 1) * T : Nat) : Int) := by
      rw [show (P : Int) - (Q : Int) = -(T : Int) by omega, Int.mul_neg]; push_cast; rfl
    rw [e] at h1
    omega

theorem foil_inj {x y : List UInt8} (hx : x.length < 65536) (hy : y.length < 65536) (h : foilOf x = foilOf y) : x.length = y.length ∧ chk x = chk y := by
  have h1 := (foil_iff (fo := foilOf x) (by rw [foilOf_len]; omega) hx).1 rfl
  have h2 := (foil_iff (fo := foilOf x) (by rw [foilOf_len]; omega) hy).1 (by rw [← h]; rfl)
  omega

/-- An inverted bit of a stock ends what is told. -/
theorem join_flipS (x S F : List UInt8) (i b : Nat) (hi : i < x.length + 2) (hb : b < 8) (hx : x.length ≤ 500) : joinOf (flipAt (stockOf x) i b ++ S) (foilOf x ++ F) = [] := by
  apply joinOf_no
  rintro ⟨h1, h2, h3, h4, h5⟩
  rw [List.take_left' (foilOf_len x)] at h5
  have hlen : (((flipAt (stockOf x) i b ++ S).drop 2).take (atN (flipAt (stockOf x) i b ++ S) 0)).length = atN (flipAt (stockOf x) i b ++ S) 0 := by
    rw [List.length_take, List.length_drop]; omega
  obtain ⟨h6, h7⟩ := foil_inj (by omega) (by rw [hlen]; omega) h5
  rw [hlen] at h6
  by_cases h : i < 2
  · have h0 := atN_stock x S (by omega)
    rw [← flipAt_left _ _ _ _ (by rw [stockOf_len]; exact hi)] at h6
    have e0 := flipAt_at (stockOf x ++ S) i b 0
    have e1 := flipAt_at (stockOf x ++ S) i b 1
    have hl : i < (stockOf x ++ S).length := by rw [List.length_append, stockOf_len]; omega
    obtain ⟨b1, b2⟩ := two_pow_bd b hb
    have h8 := flip_val ((stockOf x ++ S)[i]?.getD 0) b hb
    simp only [atN, Nat.zero_add] at h0 h6
    have hc : i = 0 ∨ i = 1 := by omega
    rcases hc with rfl | rfl
    · rw [if_pos ⟨rfl, hl⟩] at e0
      rw [if_neg (by omega)] at e1
      rw [e0, e1] at h6
      omega
    · rw [if_pos ⟨rfl, hl⟩] at e1
      rw [if_neg (by omega)] at e0
      rw [e0, e1] at h6
      omega
  · have e : flipAt (stockOf x) i b = two x.length ++ flipAt x (i - 2) b := by
      rw [stockOf, flipAt_right _ _ _ _ (by rw [two_len]; omega), two_len]
    have e2 : ((flipAt (stockOf x) i b ++ S).drop 2).take (atN (flipAt (stockOf x) i b ++ S) 0) = flipAt x (i - 2) b := by
      rw [← h6, e, List.append_assoc, show (two x.length ++ (flipAt x (i - 2) b ++ S)).drop 2 = flipAt x (i - 2) b ++ S from rfl, List.take_left' (flipAt_len ..)]
    rw [e2] at h7
    exact chk_flip x (i - 2) b (by omega) hb hx h7.symm
theorem join_flipF (x S F : List UInt8) (i b : Nat) (hi : i < 4) (hb : b < 8) (hx : x.length ≤ 500) : joinOf (stockOf x ++ S) (flipAt (foilOf x) i b ++ F) = [] := by
  apply joinOf_no
  rintro ⟨h1, h2, h3, h4, h5⟩
  rw [atN_stock x S (by omega), body_stock, List.take_left' (by rw [flipAt_len, foilOf_len])] at h5
  have e := flipAt_at (foilOf x) i b i
  rw [if_pos ⟨rfl, by rw [foilOf_len]; exact hi⟩, h5] at e
  have h8 := flip_val ((foilOf x)[i]?.getD 0) b hb
  rw [← e] at h8
  obtain ⟨b1, b2⟩ := two_pow_bd b hb
  omega

theorem join_flip_stock (l : List (List UInt8)) (hl : ∀ x ∈ l, x.length ≤ 500) (k i b : Nat) (hb : b < 8) (hk : k < l.length) (h1 : (csOf (l.take k)).length ≤ i) (h2 : i < (csOf (l.take (k + 1))).length) :
    joinOf (flipAt (csOf l) i b) (cfOf l) = l.take k := by
  have e : l = l.take k ++ (l[k] :: l.drop (k + 1)) := by rw [List.getElem_cons_drop, List.take_append_drop]
  have hx : l[k].length ≤ 500 := hl _ (List.getElem_mem hk)
  rw [List.take_add_one, List.getElem?_eq_getElem hk, csOf_append, List.length_append, show csOf (some l[k]).toList = stockOf l[k] from by simp [csOf], stockOf_len] at h2
  have e1 : flipAt (csOf l) i b = csOf (l.take k) ++ (flipAt (stockOf l[k]) (i - (csOf (l.take k)).length) b ++ csOf (l.drop (k + 1))) := by
    conv => lhs; rw [e]
    rw [csOf_append, flipAt_right _ _ _ _ h1, csOf_cons, flipAt_left _ _ _ _ (by rw [stockOf_len]; omega)]
  have e2 : cfOf l = cfOf (l.take k) ++ (foilOf l[k] ++ cfOf (l.drop (k + 1))) := by
    conv => lhs; rw [e]
    rw [cfOf_append, cfOf_cons]
  rw [e1, e2, join_app _ (fun x hx => by have := hl x (List.mem_of_mem_take hx); omega), join_flipS _ _ _ _ _ (by omega) hb hx, List.append_nil]
theorem join_flip_foil (l : List (List UInt8)) (hl : ∀ x ∈ l, x.length ≤ 500) (i b : Nat) (hb : b < 8) (hi : i < 4 * l.length) :
    joinOf (csOf l) (flipAt (cfOf l) i b) = l.take (i / 4) := by
  have hk : i / 4 < l.length := by omega
  generalize hK : i / 4 = k at *
  have e : l = l.take k ++ (l[k] :: l.drop (k + 1)) := by rw [List.getElem_cons_drop, List.take_append_drop]
  have hx : l[k].length ≤ 500 := hl _ (List.getElem_mem hk)
  have hlen : (cfOf (l.take k)).length = 4 * k := by rw [cfOf_len, List.length_take]; omega
  have e1 : csOf l = csOf (l.take k) ++ (stockOf l[k] ++ csOf (l.drop (k + 1))) := by
    conv => lhs; rw [e]
    rw [csOf_append, csOf_cons]
  have e2 : flipAt (cfOf l) i b = cfOf (l.take k) ++ (flipAt (foilOf l[k]) (i - 4 * k) b ++ cfOf (l.drop (k + 1))) := by
    conv => lhs; rw [e]
    rw [cfOf_append, flipAt_right _ _ _ _ (by omega), hlen, cfOf_cons, flipAt_left _ _ _ _ (by rw [foilOf_len]; omega)]
  rw [e1, e2, join_app _ (fun x hx => by have := hl x (List.mem_of_mem_take hx); omega), join_flipF _ _ _ _ _ (by omega) hb hx, List.append_nil]
end Go.Proofs.YtpdmlklnbjegpaaGreat
