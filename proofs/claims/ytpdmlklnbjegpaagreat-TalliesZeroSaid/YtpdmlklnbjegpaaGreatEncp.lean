/- The plain law of notes and their bytes: both tests of a note agree; what is encoded is read back by both readers, and nothing else. -/
import Derived.Test.YtpdmlklnbjegpaaGreatRh4
namespace Go.Proofs.YtpdmlklnbjegpaaGreat
set_option linter.unusedSimpArgs false

/-- Whether a note refers to another one. -/
def refersB (n : NoteV) : Bool := decide (n.kind = 2) || (decide (n.kind = 5) || decide (n.kind = 6))
def namedB (n : NoteV) : Bool := !decide (n.refH = 0 ∧ n.refN = 0)
/-- What the reference's wellFormed says. -/
def wellB (f : FrV) (n : NoteV) : Bool :=
  rightNameB n.house n.num && (inB n.clock 1 1099511627776 && (inB n.day 0 99999 && (!(refersB n != namedB n) && (!(refersB n && !rightNameB n.refH n.refN) &&
  (if n.kind = 6 then decide (n.fix = 0) && sameB (bareR 0 n) zeroN else if n.kind = 5 then rightB f n.fix n && sameB (bareR n.fix n) zeroN
   else decide (n.fix = 0) && (rightB f n.kind n && sameB (bareR n.kind n) zeroN))))))
theorem cell_or {f : FrV} (hv : f.valid = true) (x : Int) : (decide (x = -1) || cellB f x) = inB x (-1) (f.rings * f.sectors - 1) := by
  have hvf : 1 ≤ f.rings ∧ f.rings ≤ 24 ∧ 2 ≤ f.sectors ∧ f.sectors ≤ 96 ∧ 1 ≤ f.wide ∧ f.wide ≤ f.sectors := by
    simp only [FrV.valid, Bool.and_eq_true, inB_true] at hv
    omega
  have hm1 : 0 < f.rings * f.sectors := Int.mul_pos (by omega) (by omega)
  rw [Bool.eq_iff_iff]
  simp only [Bool.or_eq_true, decide_eq_true_eq, cellB, inB_true]
  omega
theorem zero14 (x : NoteV) : sameB x zeroN = decide (x.house = 0 ∧ x.num = 0 ∧ x.clock = 0 ∧ x.day = 0 ∧ x.kind = 0 ∧ x.stone = 0 ∧ x.heap = 0 ∧ x.turns = 0 ∧ x.hardLo = 0 ∧ x.hardHi = 0 ∧ x.diffLo = 0 ∧ x.diffHi = 0 ∧ x.a = 0 ∧ x.b = 0 ∧ x.ring = 0 ∧ x.refH = 0 ∧ x.refN = 0 ∧ x.fix = 0 ∧ x.strokes = []) := by
  obtain ⟨x0, x1, x2, x3, x4, x5, x6, x7, x8, x9, x10, x11, x12, x13, x14, x15, x16, x17, l⟩ := x
  simp only [sameB, nums14, zeroN]
  grind
theorem right_said {f : FrV} (hv : f.valid = true) (k : Int) (n : NoteV) (h5 : k ≠ 5) (h6 : k ≠ 6) : rightB f k n = saidB f k n := by
  unfold rightB saidB
  rw [cell_or hv]
  simp [h5, h6, cellB]
theorem rightName_some {h m : Int} (e : rightNameB h m = true) : ¬ (h = 0 ∧ m = 0) := by
  simp only [rightNameB, Bool.and_eq_true, inB_true] at e
  omega
theorem formed_well {f : FrV} (hv : f.valid = true) (n : NoteV) : formedB f n = wellB f n := by
  have hc := cell_or hv
  have ha : cellB f n.a = inB n.a 0 (f.rings * f.sectors - 1) := rfl
  simp only [formedB, wellB, okB, zero14]
  have hn := @rightName_some n.refH n.refN
  by_cases h1 : n.kind = 1
  · simp [h1, bareN, leftN, saidN, bareR, bare0, saidB, rightB, refersB, namedB]
    grind
  by_cases h2 : n.kind = 2
  · simp [h2, bareN, leftN, saidN, bareR, bare0, saidB, rightB, refersB, namedB]
    grind
  by_cases h3 : n.kind = 3
  · simp [h3, bareN, leftN, saidN, bareR, bare0, saidB, rightB, refersB, namedB, ← hc]
    grind
  by_cases h4 : n.kind = 4
  · simp [h4, bareN, leftN, saidN, bareR, bare0, saidB, rightB, refersB, namedB]
    grind
  by_cases h6 : n.kind = 6
  · simp [h6, bareN, leftN, saidN, bareR, bare0, saidB, rightB, refersB, namedB]
    grind
  by_cases h5 : n.kind = 5
  · by_cases g1 : n.fix = 1
    · simp [h5, g1, bareN, leftN, saidN, bareR, bare0, saidB, rightB, refersB, namedB, inB]
      grind
    by_cases g2 : n.fix = 2
    · simp [h5, g2, bareN, leftN, saidN, bareR, bare0, saidB, rightB, refersB, namedB, inB]
      grind
    by_cases g3 : n.fix = 3
    · simp [h5, g3, bareN, leftN, saidN, bareR, bare0, saidB, rightB, refersB, namedB, ← hc, show inB 3 1 4 = true from rfl]
      grind
    by_cases g4 : n.fix = 4
    · simp [h5, g4, bareN, leftN, saidN, bareR, bare0, saidB, rightB, refersB, namedB, inB]
      grind
    have hf : inB n.fix 1 4 = false := by rw [← Bool.not_eq_true, inB_true]; omega
    simp [h5, g1, g2, g3, g4, rightB, hf]
  simp [h1, h2, h3, h4, h5, h6, saidB, rightB]
/-- The bytes of a number: seven bits each, the low ones first. -/
def encU (u : Nat) : List UInt8 := if u < 128 then [UInt8.ofNat u] else UInt8.ofNat (u % 128 + 128) :: encU (u / 128)
termination_by u
decreasing_by omega
theorem encU_lt {u : Nat} (h : u < 128) : encU u = [UInt8.ofNat u] := by rw [encU, if_pos h]
theorem encU_ge {u : Nat} (h : 128 ≤ u) : encU u = UInt8.ofNat (u % 128 + 128) :: encU (u / 128) := by rw [encU, if_neg (by omega)]
/-- A number with a sign as one without. -/
def zig (z : Int) : Nat := if 0 ≤ z then (2 * z).toNat else (-2 * z - 1).toNat
def zag (u : Nat) : Int := if u % 2 = 0 then (u / 2 : Nat) else -((u / 2 : Nat) : Int) - 1
theorem zag_zig (z : Int) : zag (zig z) = z := by
  unfold zig zag
  split <;> split <;> omega
theorem zig_zag (u : Nat) : zig (zag u) = u := by
  unfold zig zag
  split <;> split <;> omega
/-- What the reference reads: the number, and what is left. -/
def decR (i u : Nat) : List UInt8 → Option (Nat × List UInt8)
  | [] => none
  | c :: t => if i = 9 ∧ 1 < c.toNat ∨ 0 < i ∧ c.toNat = 0 then none else if c.toNat < 128 then some (u + c.toNat % 128 * 128 ^ i, t) else decR (i + 1) (u + c.toNat % 128 * 128 ^ i) t
/-- What the program reads. -/
def decP (i u : Nat) : List UInt8 → Option (Nat × List UInt8)
  | [] => none
  | c :: t => if 9 ≤ i then none else if c.toNat < 128 then some (u + c.toNat % 128 * 128 ^ i, t) else decP (i + 1) (u + c.toNat % 128 * 128 ^ i) t
theorem byte_back (c : UInt8) : UInt8.ofNat c.toNat = c := by simp
theorem decR_enc : ∀ (l : List UInt8) (i u v : Nat) (t : List UInt8), i ≤ 9 → decR i u l = some (v, t) → ∃ m, l = encU m ++ t ∧ v = u + m * 128 ^ i ∧ (0 < i → m ≠ 0)
  | [], i, u, v, t, _, h => by simp [decR] at h
  | c :: l, i, u, v, t, hi, h => by
    rw [decR] at h
    split at h
    · cases h
    · rename_i h0
      split at h
      · rename_i h1
        simp only [Option.some.injEq, Prod.mk.injEq] at h
        obtain ⟨h, rfl⟩ := h
        refine ⟨c.toNat, ?_, ?_, fun hh => by omega⟩
        · rw [encU_lt h1, byte_back]; rfl
        · rw [← h, Nat.mod_eq_of_lt h1]
      · rename_i h1
        have hc := c.toNat_lt
        by_cases h9 : i = 9
        · omega
        obtain ⟨m, e1, e2, e3⟩ := decR_enc l (i + 1) _ v t (by omega) h
        have hm := e3 (by omega)
        refine ⟨c.toNat % 128 + 128 * m, ?_, ?_, fun _ => by omega⟩
        · rw [encU_ge (by omega), show (c.toNat % 128 + 128 * m) % 128 + 128 = c.toNat by omega, show (c.toNat % 128 + 128 * m) / 128 = m by omega, byte_back, e1]
          rfl
        · rw [e2, Nat.pow_succ, Nat.add_mul, Nat.add_assoc, Nat.mul_comm 128 m, Nat.mul_assoc, Nat.mul_comm (128 ^ i) 128]
theorem toNat_of {n : Nat} (h : n < 256) : (UInt8.ofNat n).toNat = n := by
  simp only [UInt8.toNat_ofNat']
  omega
theorem decR_of_enc (m : Nat) : ∀ (i u : Nat) (t : List UInt8), i ≤ 9 → (0 < i → m ≠ 0) → m * 128 ^ i < 2 ^ 64 → decR i u (encU m ++ t) = some (u + m * 128 ^ i, t) := by
  induction m using Nat.strongRecOn with
  | ind m ih =>
    intro i u t hi h0 hm
    have h9 : i = 9 → m ≤ 1 := fun h => by subst h; omega
    by_cases h : m < 128
    · rw [encU_lt h, List.singleton_append, decR, toNat_of (by omega), if_neg (by omega), if_pos h, Nat.mod_eq_of_lt h]
    · rw [encU_ge (by omega), List.cons_append, decR, toNat_of (by omega), if_neg (by omega), if_neg (by omega), show (m % 128 + 128) % 128 = m % 128 by omega]
      have e : m / 128 * 128 ^ (i + 1) + m % 128 * 128 ^ i = m * 128 ^ i := by
        rw [Nat.pow_succ, ← Nat.mul_assoc, Nat.mul_comm _ 128, ← Nat.mul_assoc, ← Nat.add_mul]
        congr 1
        omega
      rw [ih (m / 128) (by omega) (i + 1) _ t (by omega) (fun _ => by omega) (by omega), ← e]
      simp only [Option.some.injEq, Prod.mk.injEq, and_true]
      omega
theorem decP_of_enc (m : Nat) : ∀ (i u : Nat) (t : List UInt8), i ≤ 8 → m * 128 ^ i < 2 ^ 63 → decP i u (encU m ++ t) = some (u + m * 128 ^ i, t) := by
  induction m using Nat.strongRecOn with
  | ind m ih =>
    intro i u t hi hm
    by_cases h : m < 128
    · rw [encU_lt h, List.singleton_append, decP, toNat_of (by omega), if_neg (by omega), if_pos h, Nat.mod_eq_of_lt h]
    · have h8 : i ≠ 8 := fun h => by subst h; omega
      rw [encU_ge (by omega), List.cons_append, decP, toNat_of (by omega), if_neg (by omega), if_neg (by omega), show (m % 128 + 128) % 128 = m % 128 by omega]
      have e : m / 128 * 128 ^ (i + 1) + m % 128 * 128 ^ i = m * 128 ^ i := by
        rw [Nat.pow_succ, ← Nat.mul_assoc, Nat.mul_comm _ 128, ← Nat.mul_assoc, ← Nat.add_mul]
        congr 1
        omega
      rw [ih (m / 128) (by omega) (i + 1) _ t (by omega) (by omega), ← e]
      simp only [Option.some.injEq, Prod.mk.injEq, and_true]
      omega

def far : Int := 4611686018427387904
def SmallZ (z : Int) : Prop := -far ≤ z ∧ z < far
theorem zig_small {z : Int} : zig z < 2 ^ 63 ↔ SmallZ z := by
  unfold zig SmallZ far
  split <;> omega
def encZ (z : Int) : List UInt8 := encU (zig z)
def encL (l : List Int) : List UInt8 := l.flatMap encZ
def numR (l : List UInt8) : Option (Int × List UInt8) := match decR 0 0 l with
  | some (u, t) => if u < 2 ^ 63 then some (zag u, t) else none
  | none => none
def numP (l : List UInt8) : Option (Int × List UInt8) := match decP 0 0 l with
  | some (u, t) => some (zag u, t)
  | none => none
theorem numR_enc {l t : List UInt8} {z : Int} (h : numR l = some (z, t)) : l = encZ z ++ t ∧ SmallZ z := by
  unfold numR at h
  split at h
  · rename_i u t' e
    split at h
    · rename_i hu
      simp only [Option.some.injEq, Prod.mk.injEq] at h
      obtain ⟨rfl, rfl⟩ := h
      obtain ⟨m, e1, e2, _⟩ := decR_enc l 0 0 u t' (by omega) e
      simp only [Nat.pow_zero, Nat.mul_one, Nat.zero_add] at e2
      subst e2
      exact ⟨by rw [encZ, zig_zag]; exact e1, by rw [← zig_small, zig_zag]; exact hu⟩
    · cases h
  · cases h
theorem numR_of_enc {z : Int} (hz : SmallZ z) (t : List UInt8) : numR (encZ z ++ t) = some (z, t) := by
  have h := zig_small.2 hz
  unfold numR encZ
  rw [decR_of_enc (zig z) 0 0 t (by omega) (by omega) (by omega)]
  simp only [Nat.pow_zero, Nat.mul_one, Nat.zero_add, zag_zig, if_pos h]
theorem numP_of_enc {z : Int} (hz : SmallZ z) (t : List UInt8) : numP (encZ z ++ t) = some (z, t) := by
  have h := zig_small.2 hz
  unfold numP encZ
  rw [decP_of_enc (zig z) 0 0 t (by omega) (by omega)]
  simp only [Nat.pow_zero, Nat.mul_one, Nat.zero_add, zag_zig]
/-- Several numbers, one behind the other. -/
def many (f : List UInt8 → Option (Int × List UInt8)) : Nat → List UInt8 → Option (List Int × List UInt8)
  | 0, l => some ([], l)
  | k + 1, l => match many f k l with
    | some (xs, t) => match f t with
      | some (z, t') => some (xs ++ [z], t')
      | none => none
    | none => none
theorem many_len {f : List UInt8 → Option (Int × List UInt8)} : ∀ (k : Nat) (l : List UInt8) (xs : List Int) (t : List UInt8), many f k l = some (xs, t) → xs.length = k
  | 0, l, xs, t, h => by simp only [many, Option.some.injEq, Prod.mk.injEq] at h; rw [← h.1]; rfl
  | k + 1, l, xs, t, h => by
    rw [many] at h
    split at h
    · rename_i ys t1 e
      split at h
      · simp only [Option.some.injEq, Prod.mk.injEq] at h
        rw [← h.1, List.length_append, many_len k l ys t1 e]
        rfl
      · cases h
    · cases h
theorem encL_append (x y : List Int) : encL (x ++ y) = encL x ++ encL y := by simp [encL]
theorem encL_one (z : Int) : encL [z] = encZ z := by simp [encL]
theorem manyR_enc : ∀ (k : Nat) (l : List UInt8) (xs : List Int) (t : List UInt8), many numR k l = some (xs, t) → l = encL xs ++ t ∧ ∀ z ∈ xs, SmallZ z
  | 0, l, xs, t, h => by simp only [many, Option.some.injEq, Prod.mk.injEq] at h; obtain ⟨rfl, rfl⟩ := h; exact ⟨rfl, by simp⟩
  | k + 1, l, xs, t, h => by
    rw [many] at h
    split at h
    · rename_i ys t1 e
      split at h
      · rename_i z t2 e2
        simp only [Option.some.injEq, Prod.mk.injEq] at h
        obtain ⟨rfl, rfl⟩ := h
        obtain ⟨h1, h2⟩ := manyR_enc k l ys t1 e
        obtain ⟨h3, h4⟩ := numR_enc e2
        refine ⟨by rw [encL_append, encL_one, List.append_assoc, ← h3]; exact h1, fun x hx => ?_⟩
        rcases List.mem_append.1 hx with hx | hx
        · exact h2 x hx
        · rw [List.mem_singleton.1 hx]; exact h4
      · cases h
    · cases h
theorem many_of_enc {f : List UInt8 → Option (Int × List UInt8)} (hf : ∀ z, SmallZ z → ∀ t, f (encZ z ++ t) = some (z, t)) (xs : List Int) : ∀ (k : Nat), k ≤ xs.length → (∀ z ∈ xs, SmallZ z) → ∀ t, many f k (encL (xs.take k) ++ t) = some (xs.take k, t)
  | 0, _, _, t => by simp [many, encL]
  | k + 1, hk, hs, t => by
    have hx : xs.take (k + 1) = xs.take k ++ [xs[k]] := by rw [List.take_append_getElem]
    rw [hx, encL_append, encL_one, List.append_assoc, many, many_of_enc hf xs k (by omega) hs]
    simp only [hf _ (hs _ (List.getElem_mem _))]
theorem many_enc_all {f : List UInt8 → Option (Int × List UInt8)} (hf : ∀ z, SmallZ z → ∀ t, f (encZ z ++ t) = some (z, t)) (xs : List Int) (hs : ∀ z ∈ xs, SmallZ z) (t : List UInt8) : many f xs.length (encL xs ++ t) = some (xs, t) := by
  have h := many_of_enc hf xs xs.length (Nat.le_refl _) hs t
  rwa [List.take_length] at h
theorem encU_pos (u : Nat) : 1 ≤ (encU u).length := by
  unfold encU
  split <;> simp
theorem encL_pos (l : List Int) : l.length ≤ (encL l).length := by
  induction l with
  | nil => simp [encL]
  | cons z l ih =>
    have h := encU_pos (zig z)
    rw [show encL (z :: l) = encZ z ++ encL l from rfl, List.length_append, List.length_cons, encZ]
    omega
/-- The numbers of a note ahead of its strokes, and behind them. -/
def aheadN (n : NoteV) : List Int := [n.house, n.num, n.clock, n.day, n.kind, n.stone, n.heap, n.turns, n.hardLo, n.hardHi, n.diffLo, n.diffHi, n.a, n.b, n.ring]
def behindN (n : NoteV) : List Int := [n.refH, n.refN, n.fix]
def encN (n : NoteV) : List UInt8 := encL (aheadN n) ++ (encZ n.strokes.length ++ (encL n.strokes ++ encL (behindN n)))
def mkN (x y z : List Int) : NoteV := ⟨x[0]?.getD 0, x[1]?.getD 0, x[2]?.getD 0, x[3]?.getD 0, x[4]?.getD 0, x[5]?.getD 0, x[6]?.getD 0, x[7]?.getD 0, x[8]?.getD 0, x[9]?.getD 0, x[10]?.getD 0, x[11]?.getD 0, x[12]?.getD 0, x[13]?.getD 0, x[14]?.getD 0, z[0]?.getD 0, z[1]?.getD 0, z[2]?.getD 0, y⟩
theorem mkN_self (n : NoteV) : mkN (aheadN n) n.strokes (behindN n) = n := rfl
theorem of15 {x : List Int} (h : x.length = 15) (y z : List Int) : aheadN (mkN x y z) = x := by
  obtain ⟨a0, a1, a2, a3, a4, a5, a6, a7, a8, a9, a10, a11, a12, a13, a14, rfl⟩ : ∃ a0 a1 a2 a3 a4 a5 a6 a7 a8 a9 a10 a11 a12 a13 a14, x = [a0, a1, a2, a3, a4, a5, a6, a7, a8, a9, a10, a11, a12, a13, a14] := by
    match x, h with
    | [a0, a1, a2, a3, a4, a5, a6, a7, a8, a9, a10, a11, a12, a13, a14], _ => exact ⟨_, _, _, _, _, _, _, _, _, _, _, _, _, _, _, rfl⟩
  rfl
theorem of3 {z : List Int} (h : z.length = 3) (x y : List Int) : behindN (mkN x y z) = z := by
  obtain ⟨a0, a1, a2, rfl⟩ : ∃ a0 a1 a2, z = [a0, a1, a2] := by
    match z, h with
    | [a0, a1, a2], _ => exact ⟨_, _, _, rfl⟩
  rfl
/-- What is read of a note. -/
def noteF (f : List UInt8 → Option (Int × List UInt8)) (l : List UInt8) : Option (NoteV × List UInt8) := match many f 15 l with
  | some (x, t) => match f t with
    | some (c, t1) => if 0 ≤ c ∧ c ≤ t1.length then match many f c.toNat t1 with
        | some (y, t2) => match many f 3 t2 with
          | some (z, t3) => some (mkN x y z, t3)
          | none => none
        | none => none
      else none
    | none => none
  | none => none
def SmallN (n : NoteV) : Prop := (∀ z ∈ aheadN n, SmallZ z) ∧ (∀ z ∈ n.strokes, SmallZ z) ∧ (∀ z ∈ behindN n, SmallZ z) ∧ SmallZ n.strokes.length
theorem noteR_enc {l t : List UInt8} {n : NoteV} (h : noteF numR l = some (n, t)) : l = encN n ++ t ∧ SmallN n := by
  unfold noteF at h
  split at h
  · rename_i x t0 e0
    split at h
    · rename_i c t1 e1
      split at h
      · rename_i hc
        split at h
        · rename_i y t2 e2
          split at h
          · rename_i z t3 e3
            simp only [Option.some.injEq, Prod.mk.injEq] at h
            obtain ⟨rfl, rfl⟩ := h
            have q0 := manyR_enc _ _ _ _ e0
            have q1 := numR_enc e1
            have q2 := manyR_enc _ _ _ _ e2
            have q3 := manyR_enc _ _ _ _ e3
            have hl := many_len _ _ _ _ e2
            have hy : (y.length : Int) = c := by omega
            unfold encN SmallN
            rw [of15 (many_len _ _ _ _ e0), of3 (many_len _ _ _ _ e3)]
            refine ⟨?_, q0.2, q2.2, q3.2, ?_⟩
            · show l = (encL x ++ (encZ y.length ++ (encL y ++ encL z))) ++ t3
              rw [hy]
              simp only [List.append_assoc]
              rw [← q3.1, ← q2.1, ← q1.1]
              exact q0.1
            · show SmallZ y.length
              rw [hy]
              exact q1.2
          · cases h
        · cases h
      · cases h
    · cases h
  · cases h
theorem note_of_enc {f : List UInt8 → Option (Int × List UInt8)} (hf : ∀ z, SmallZ z → ∀ t, f (encZ z ++ t) = some (z, t)) {n : NoteV} (h : SmallN n) (t : List UInt8) : noteF f (encN n ++ t) = some (n, t) := by
  obtain ⟨h1, h2, h3, h4⟩ := h
  unfold noteF encN
  simp only [List.append_assoc]
  have e1 := many_enc_all hf (aheadN n) h1
  rw [show (aheadN n).length = 15 from rfl] at e1
  rw [e1]
  have hp := encL_pos n.strokes
  simp only [hf _ h4, List.length_append]
  rw [if_pos (by omega), Int.toNat_natCast, many_enc_all hf n.strokes h2]
  have e3 := many_enc_all hf (behindN n) h3
  rw [show (behindN n).length = 3 from rfl] at e3
  simp only [e3, mkN_self]
theorem formed_small {f : FrV} (hv : f.valid = true) {n : NoteV} (h : formedB f n = true) : SmallN n := by
  have hvf : 1 ≤ f.rings ∧ f.rings ≤ 24 ∧ 2 ≤ f.sectors ∧ f.sectors ≤ 96 ∧ 1 ≤ f.wide ∧ f.wide ≤ f.sectors := by
    simp only [FrV.valid, Bool.and_eq_true, inB_true] at hv
    omega
  have hm1 : 0 < f.rings * f.sectors := Int.mul_pos (by omega) (by omega)
  have hm2 : f.rings * f.sectors ≤ 24 * 96 := Int.mul_le_mul hvf.2.1 hvf.2.2.2.1 (by omega) (by omega)
  have hst : n.strokes = [] ∨ strokesB (f.sectors - f.wide) n.strokes = true := by
    rw [formed_well hv] at h
    simp only [wellB, zero14, bareR, bare0, rightB] at h
    grind
  have hs : (∀ z ∈ n.strokes, SmallZ z) ∧ SmallZ n.strokes.length := by
    rcases hst with e | e
    · rw [e]; simp [SmallZ, far]
    · simp only [strokesB, strokesP, Bool.and_eq_true, decide_eq_true_eq, inB_true] at e
      refine ⟨fun z hz => ?_, by unfold SmallZ far; omega⟩
      obtain ⟨i, hi, rfl⟩ := List.getElem_of_mem hz
      have := (e.1 i hi).1
      rw [List.getElem?_eq_getElem hi, Option.getD_some] at this
      unfold SmallZ far; omega
  have hk : 1 ≤ n.kind ∧ n.kind ≤ 6 := by
    simp only [formedB, okB, saidB] at h
    grind
  rw [formed_well hv] at h
  generalize hM : f.rings * f.sectors = M at *
  have hall : ∀ (x : Int), x ∈ aheadN n ++ behindN n → SmallZ x := by
    simp only [aheadN, behindN, List.cons_append, List.nil_append, List.forall_mem_cons, List.not_mem_nil, false_imp_iff, implies_true, and_true, SmallZ, far]
    obtain ⟨k1, k2⟩ := hk
    have hh : n.kind = 1 ∨ n.kind = 2 ∨ n.kind = 3 ∨ n.kind = 4 ∨ n.kind = 5 ∨ n.kind = 6 := by omega
    clear hs hst k1 k2
    rcases hh with e | e | e | e | e | e
    · simp [e, wellB, zero14, bareR, bare0, rightB, rightNameB, refersB, namedB, spansB, inB] at h
      omega
    · simp [e, wellB, zero14, bareR, bare0, rightB, rightNameB, refersB, namedB, spansB, inB] at h
      omega
    · simp [e, hM, wellB, zero14, bareR, bare0, rightB, rightNameB, refersB, namedB, spansB, inB] at h
      omega
    · simp [e, hM, wellB, zero14, bareR, bare0, rightB, rightNameB, refersB, namedB, spansB, inB] at h
      omega
    · have hx : n.fix = 1 ∨ n.fix = 2 ∨ n.fix = 3 ∨ n.fix = 4 := by
        simp [e, wellB, rightB] at h
        grind
      rcases hx with g | g | g | g
      · simp [e, g, hM, wellB, zero14, bareR, bare0, rightB, rightNameB, refersB, namedB, spansB, inB] at h
        omega
      · simp [e, g, hM, wellB, zero14, bareR, bare0, rightB, rightNameB, refersB, namedB, spansB, inB] at h
        omega
      · simp [e, g, hM, wellB, zero14, bareR, bare0, rightB, rightNameB, refersB, namedB, spansB, inB] at h
        omega
      · simp [e, g, hM, wellB, zero14, bareR, bare0, rightB, rightNameB, refersB, namedB, spansB, inB] at h
        omega
    · simp [e, hM, wellB, zero14, bareR, bare0, rightB, rightNameB, refersB, namedB, spansB, inB] at h
      omega
  exact ⟨fun z hz => hall z (List.mem_append_left _ hz), hs.1, fun z hz => hall z (List.mem_append_right _ hz), hs.2⟩
/-- The two decoders accept the same bytes as the same notes. -/
theorem decode_iff {f : FrV} (hv : f.valid = true) (b : List UInt8) (n : NoteV) (hf : formedB f n = true) : ((∃ t, noteF numP b = some (n, t)) ∧ encN n = b) ↔ noteF numR b = some (n, []) := by
  constructor
  · rintro ⟨_, rfl⟩
    have h := note_of_enc (f := numR) (fun z hz t => numR_of_enc hz t) (formed_small hv hf) []
    rwa [List.append_nil] at h
  · intro h
    obtain ⟨e, hs⟩ := noteR_enc h
    rw [List.append_nil] at e
    have h := note_of_enc (f := numP) (fun z hz t => numP_of_enc hz t) (formed_small hv hf) []
    rw [List.append_nil] at h
    exact ⟨⟨[], by rw [e]; exact h⟩, e.symm⟩
theorem decode_of_enc {f : FrV} (hv : f.valid = true) (n : NoteV) (hf : formedB f n = true) : noteF numP (encN n) = some (n, []) := by
  have h := note_of_enc (f := numP) (fun z hz t => numP_of_enc hz t) (formed_small hv hf) []
  rwa [List.append_nil] at h
end Go.Proofs.YtpdmlklnbjegpaaGreat
