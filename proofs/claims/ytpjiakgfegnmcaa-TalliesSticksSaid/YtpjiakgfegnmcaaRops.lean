/- A list of operations in memory. -/
import Derived.Test.YtpjiakgfegnmcaaRboth
import Derived.Test.YtpjiakgfegnmcaaStru
namespace Go.Proofs.Ytpjiakgfegnmcaa
open Go.RowKit

structure OpV where
  kind : Int
  stock : Int
  foil : Int
  flip : Int
  bytes : List UInt8
deriving Inhabited

/-- The 26 cells from b, off on hold the operation o. -/
def RdOp (w : World) (b off : Nat) (o : OpV) : Prop :=
  ∃ (cs : List Value) (ba : Option Addr) (bc : Nat), cs.length = 26 ∧ (∀ v ∈ cs, v.oneCell' = true) ∧ w.rangeAt b off cs ∧
    cs[0]? = some (.int .i64 o.kind) ∧ cs[1]? = some (.slice ba o.bytes.length bc) ∧ cs[23]? = some (.int .i64 o.stock) ∧ cs[24]? = some (.int .i64 o.foil) ∧ cs[25]? = some (.int .i64 o.flip) ∧ RdB w ba o.bytes.length bc o.bytes
def RdOps (w : World) (a : Option Addr) (n c : Nat) (l : List OpV) : Prop :=
  l.length = n ∧ n ≤ c ∧ c ≤ maxLen ∧ (n = 0 ∨ ∃ b off, a = some ⟨b, off, none⟩ ∧ ∀ i, i < n → RdOp w b (off + i * 26) (l[i]?.getD default))
theorem RdOp.below {w w' : World} {b off : Nat} {o : OpV} (h : RdOp w b off o) (hb : Below w.heap.size w w') : RdOp w' b off o := by
  obtain ⟨cs, ba, bc, h1, h0, h2, h3, h4, h5, h6, h7, h8⟩ := h
  exact ⟨cs, ba, bc, h1, h0, fun j x hx => (hb.cell (p := ⟨b, off + j, none⟩) (World.block_lt_of_cell? w _ (h2 j x hx))).trans (h2 j x hx), h3, h4, h5, h6, h7, h8.below hb⟩
theorem RdOps.below {w w' : World} {a : Option Addr} {n c : Nat} {l : List OpV} (h : RdOps w a n c l) (hb : Below w.heap.size w w') : RdOps w' a n c l := by
  obtain ⟨h1, h2, h3, h4⟩ := h
  refine ⟨h1, h2, h3, ?_⟩
  rcases h4 with h4 | ⟨b, off, rfl, h4⟩
  · exact .inl h4
  · exact .inr ⟨b, off, rfl, fun i hi => (h4 i hi).below hb⟩
theorem RdOps.maxn {w : World} {a : Option Addr} {n c : Nat} {l : List OpV} (h : RdOps w a n c l) : n ≤ 9223372036854775807 := by
  have h1 := h.2.1; have h2 := h.2.2.1; unfold maxLen at h2; omega
theorem RdOps.at {w : World} {a : Option Addr} {n c : Nat} {l : List OpV} (h : RdOps w a n c l) (hn : 0 < n) : ∃ b off, a = some ⟨b, off, none⟩ ∧ ∀ i, i < n → RdOp w b (off + i * 26) (l[i]?.getD default) := by
  rcases h.2.2.2 with h4 | h4
  · omega
  · exact h4
end Go.Proofs.Ytpjiakgfegnmcaa
