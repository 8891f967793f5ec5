/- Structs of many cells, whole: a load, and a store into the block that was made last. -/
import Derived.Test.YtpdmlklnbjegpaaGreatBase
import Derived.Deep.MidRow
import Derived.Deep.WholeRow
namespace Go.Proofs.YtpdmlklnbjegpaaGreat
open Go.RowKit

theorem wpList_store_new {P : Program} {ops : Array Oper} {rest : List Oper} {op : Oper} {a : Act} {Q : Exit → Act → World → Prop} (w : World) (hgd : op.guard = none) (ty : TypeId) (x y : Operand) (ho : op.op = .store ty x y)
    (c c' : Array Value) (hx : a.eval x = .pointer (some ⟨w.heap.size, 0, none⟩)) (hy : a.eval y = .agg c') (hi : (P.info? ty).map (·.size) = some c'.size) (hc : c.size = c'.size) (h1 : c'.all (·.oneCell') = true)
    (h : wpList P ops Q rest (a.put op.dst undef) (w.alloc (.cells c' ty))) : wpList P ops Q (op :: rest) a (w.alloc (.cells c ty)) := by
  refine wpList_plain hgd fun K hK => ?_
  unfold Oper.wp execOp
  simp only [ho, hx, hy, run_storeAt_new w ty c c' hi hc h1, Sem.run_bind, Sem.run_pure, Result.andThen_ok]
  exact hK _ _ h

theorem cell_new (w : World) (cs : List Value) (t : TypeId) (j : Nat) (v : Value) (h : cs[j]? = some v) : (w.alloc (.cells cs.toArray t)).cell? ⟨w.heap.size, j, none⟩ = some v := by
  have hh := heap_alloc_last w (.cells cs.toArray t)
  simp only [World.cell?, hh]
  simpa using h
end Go.Proofs.YtpdmlklnbjegpaaGreat
