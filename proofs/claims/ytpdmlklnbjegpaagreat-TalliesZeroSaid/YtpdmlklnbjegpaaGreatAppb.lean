/- Bytes that grow: only blocks of bytes from a base on turn. -/
import Derived.Test.YtpdmlklnbjegpaaGreatNote
import Derived.Test.YtpdmlklnbjegpaaGreatBytes
import Derived.Test.YtpdmlklnbjegpaaGreatEncp
namespace Go.Proofs.YtpdmlklnbjegpaaGreat
open Go.RowKit

/-- A block of bytes, from the base on. -/
def U8 (base : Nat) (w : World) (k : Nat) : Prop := base ≤ k ∧ ∃ cur sp, w.heap[k]? = some (.cells cur 5 sp)
/-- Blocks that were there are as they were, but for blocks of bytes from the base on. -/
structure AppB (base : Nat) (w w' : World) : Prop where
  os : w'.os = w.os
  tape : w'.tape = w.tape
  output : w'.output = w.output
  size : w.heap.size ≤ w'.heap.size
  block : ∀ k, k < w.heap.size → ¬ U8 base w k → w'.heap[k]? = w.heap[k]?
theorem AppB.refl (base : Nat) (w : World) : AppB base w w := ⟨rfl, rfl, rfl, Nat.le_refl _, fun _ _ _ => rfl⟩
theorem AppB.not {base : Nat} {w w' : World} (h : AppB base w w') {k : Nat} (hk : k < w.heap.size) (hn : ¬ U8 base w k) : ¬ U8 base w' k := by
  rintro ⟨h1, cur, sp, h2⟩
  exact hn ⟨h1, cur, sp, by rw [← h.block k hk hn]; exact h2⟩
theorem AppB.trans {base : Nat} {a b c : World} (h : AppB base a b) (k : AppB base b c) : AppB base a c :=
  ⟨k.os.trans h.os, k.tape.trans h.tape, k.output.trans h.output, Nat.le_trans h.size k.size, fun i hi hs => (k.block i (Nat.lt_of_lt_of_le hi h.size) (h.not hi hs)).trans (h.block i hi hs)⟩
theorem AppB.of_below {base : Nat} {w w' : World} (h : Below w.heap.size w w') : AppB base w w' := ⟨h.os, h.tape, h.output, h.size, fun k hk _ => h.block k hk⟩
theorem AppB.mono {base base' : Nat} {w w' : World} (h : AppB base' w w') (hb : base ≤ base') : AppB base w w' :=
  ⟨h.os, h.tape, h.output, h.size, fun k hk hn => h.block k hk (fun ⟨h1, h2⟩ => hn ⟨Nat.le_trans hb h1, h2⟩)⟩
theorem AppB.of_own {base : Nat} {w w' : World} {v : Value} {n : Nat} {xs : List Value} (ho : w.ownsRow base 5 1 v n xs) (hg : w.grownBy w' v.ownBlock) : AppB base w w' := by
  refine ⟨hg.os, hg.tape, hg.output, hg.size, fun k hk hn => hg.block k hk (fun e => hn ?_)⟩
  rcases ho.2 with ⟨rfl, _⟩ | ⟨g, cap, cur, rfl, h1, h2, _⟩
  · cases e
  · simp only [Value.ownBlock, Option.some.injEq] at e
    subst e
    exact ⟨h1, cur, _, h2⟩
theorem AppB.below {base : Nat} {w w' : World} (h : AppB base w w') (hb : base ≤ w.heap.size) : Below base w w' :=
  ⟨h.os, h.tape, h.output, h.size, fun k hk => h.block k (by omega) (fun ⟨h1, _⟩ => by omega)⟩
theorem AppB.into {base : Nat} {a w w' : World} (h : AppB base w w') (hb : Below base a w) (hs : base ≤ w.heap.size) : Below base a w' := hb.trans (h.below hs)
/-- A slice that lies apart of the bytes that grow. -/
def Apart (base : Nat) (w : World) (a : Option Addr) : Prop := ∀ b off, a = some ⟨b, off, none⟩ → b < w.heap.size → ¬ U8 base w b
theorem AppB.rd {base : Nat} {w w' : World} (h : AppB base w w') {k : Nat} {a : Option Addr} {n c : Nat} {xs : List Value} (hr : RdA w k a n c xs) (hn : Apart base w a) : RdA w' k a n c xs :=
  hr.of_cells fun b ⟨off, hb⟩ hlt => h.block b hlt (hn b off hb hlt)
theorem Apart.keep {base : Nat} {w w' : World} {a : Option Addr} (hn : Apart base w a) (h : AppB base w w') (hl : ∀ b off, a = some ⟨b, off, none⟩ → b < w.heap.size) : Apart base w' a :=
  fun b off e _ => h.not (hl b off e) (hn b off e (hl b off e))
theorem Apart.keep' {base : Nat} {w w' : World} {k : Nat} {a : Option Addr} {n c : Nat} {xs : List Value} (hn : Apart base w a) (h : AppB base w w') (hr : RdA w k a n c xs) (h0 : 0 < n) (hk : 0 < k) : Apart base w' a :=
  hn.keep h fun b off e => by
    obtain ⟨b', off', e', hc⟩ := hr.at h0
    rw [e] at e'
    cases e'
    have hl : 0 < xs.length := by rw [hr.len]; exact Nat.mul_pos h0 hk
    exact World.block_lt_of_cell? w _ (hc 0 _ (List.getElem?_eq_getElem hl))
theorem Apart.old {base : Nat} {w : World} {a : Option Addr} (h : ∀ b off, a = some ⟨b, off, none⟩ → b < base) : Apart base w a := fun b off e _ ⟨h1, _⟩ => by have := h b off e; omega
theorem not_U8 {base : Nat} {w : World} {k : Nat} {cur : Array Value} {t : TypeId} {sp : Nat × Nat} (h : w.heap[k]? = some (.cells cur t sp)) (ht : t ≠ 5) : ¬ U8 base w k := by
  rintro ⟨_, cur', sp', h'⟩
  rw [h] at h'
  simp only [Option.some.injEq, Obj.cells.injEq] at h'
  exact ht h'.2.1

theorem encU_len (u : Nat) : ∀ k, u < 128 ^ (k + 1) → (encU u).length ≤ k + 1 := by
  induction u using Nat.strongRecOn with
  | ind u ih =>
    intro k hk
    by_cases h : u < 128
    · rw [encU_lt h]; simp
    · cases k with
      | zero => simp at hk; omega
      | succ k =>
        rw [encU_ge (by omega), List.length_cons]
        have := ih (u / 128) (by omega) k (by rw [Nat.pow_succ] at hk; omega)
        omega
theorem zig_lt {z : Int} (h : I64 z) : zig z < 18446744073709551616 := by
  unfold I64 at h
  unfold zig
  split <;> omega
theorem encZ_len {z : Int} (h : I64 z) : (encZ z).length ≤ 10 := encU_len _ 9 (by have := zig_lt h; omega)
theorem encL_len (l : List Int) (h : ∀ z ∈ l, I64 z) : (encL l).length ≤ 10 * l.length := by
  induction l with
  | nil => simp [encL]
  | cons z l ih =>
    have h1 := encZ_len (h z (List.mem_cons_self ..))
    have h2 := ih (fun x hx => h x (List.mem_cons_of_mem _ hx))
    rw [show encL (z :: l) = encZ z ++ encL l from rfl, List.length_append, List.length_cons]
    omega
theorem encL_take {l : List Int} {k : Nat} (h : k < l.length) : encL (l.take (k + 1)) = encL (l.take k) ++ encZ (l[k]?.getD 0) := by
  rw [List.getElem?_eq_getElem h, Option.getD_some, ← encL_one, ← encL_append, List.take_append_getElem]
end Go.Proofs.YtpdmlklnbjegpaaGreat
