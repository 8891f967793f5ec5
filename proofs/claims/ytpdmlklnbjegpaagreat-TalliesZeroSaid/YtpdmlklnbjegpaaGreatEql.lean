/- Equality of arrays of ints, as one step. -/
import Derived.Test.YtpdmlklnbjegpaaGreatHis2
import Derived.ChangeKeysEq
namespace Go.Proofs.YtpdmlklnbjegpaaGreat
open Go.RowKit

theorem plain_int : Tryz.prog.plainKey 3 = true := by kernel_rfl
theorem run_eqItems_ints (w : World) (d : Nat) (l m : List Int) : ∀ is : List Nat, (∀ i ∈ is, i < l.length ∧ i < m.length) →
    (Op.eqItems (d + 1) 3 (Tryz.prog.cellsOf 3) (l.map intV).toArray (m.map intV).toArray is).run Tryz.prog w = .ok (decide (∀ i ∈ is, l[i]?.getD 0 = m[i]?.getD 0)) w
  | [], _ => by simp [Op.eqItems]
  | i :: is, h => by
    have hi := h i (List.mem_cons_self ..)
    have hc : Tryz.prog.cellsOf 3 = 1 := by kernel_rfl
    have ih := run_eqItems_ints w d l m is (fun j hj => h j (List.mem_cons_of_mem _ hj))
    have p1 : (part 3 (l.map intV).toArray (i * 1)).run Tryz.prog w = .ok (intV (l[i]?.getD 0)) w := run_part_plain w plain_int (by simp [List.getElem?_eq_getElem hi.1])
    have p2 : (part 3 (m.map intV).toArray (i * 1)).run Tryz.prog w = .ok (intV (m[i]?.getD 0)) w := run_part_plain w plain_int (by simp [List.getElem?_eq_getElem hi.2])
    have p3 := run_equalIn_int w d 3 .i64 .i64 (l[i]?.getD 0) (m[i]?.getD 0) Tryz.underlying3
    rw [hc] at ih ⊢
    simp only [Op.eqItems, Sem.run_bind, p1, p2, Result.andThen_ok]
    rw [show Op.equalIn (d + 1) 3 (intV (l[i]?.getD 0)) (intV (m[i]?.getD 0)) = Op.equalIn (d + 1) 3 (.int .i64 (l[i]?.getD 0)) (.int .i64 (m[i]?.getD 0)) from rfl, p3]
    simp only [Result.andThen_ok]
    by_cases he : l[i]?.getD 0 = m[i]?.getD 0
    · simp [he, ih]
    · simp [he]

theorem all_range14 {l m : List Int} (hl : l.length = 14) (hm : m.length = 14) : (∀ i ∈ List.range 14, l[i]?.getD 0 = m[i]?.getD 0) ↔ l = m := by
  constructor
  · intro h
    refine ilist_ext (by omega) (fun j hj => h j (List.mem_range.2 (by omega)))
  · rintro rfl i _
    rfl
set_option maxRecDepth 100000 in
theorem run_equalIn14 (w : World) (d : Nat) (l m : List Int) (hl : l.length = 14) (hm : m.length = 14) : (Op.equalIn (d + 2) 175 (.agg (l.map intV).toArray) (.agg (m.map intV).toArray)).run Tryz.prog w = .ok (decide (l = m)) w := by
  obtain ⟨i, hi, _⟩ : ∃ i, Tryz.prog.info? 3 = some i ∧ True := by
    cases h : Tryz.prog.info? 3 with
    | none => exact absurd h (by have : (Tryz.prog.info? 3).isSome = true := by kernel_rfl
                                 intro h'; rw [h'] at this; cases this)
    | some i => exact ⟨i, rfl, trivial⟩
  rw [run_equalIn_array (P := Tryz.prog) w (d + 1) (t := 175) (l.map intV).toArray (m.map intV).toArray Tryz.underlying175 hi, run_eqItems_ints w d l m (List.range 14) (fun i hi => by have := List.mem_range.1 hi; omega)]
  congr 1
  exact decide_eq_decide.2 (all_range14 hl hm)
theorem run_equal14 (w : World) (l m : List Int) (hl : l.length = 14) (hm : m.length = 14) : (Op.equal 175 (.agg (l.map intV).toArray) (.agg (m.map intV).toArray)).run Tryz.prog w = .ok (decide (l = m)) w := by
  obtain ⟨d, hd⟩ : ∃ d, Op.maxDepth = d + 2 := ⟨9998, rfl⟩
  rw [Op.equal, hd]
  exact run_equalIn14 w d l m hl hm
theorem guard14 : Tryz.prog.eqGuardType Tryz.prog.depth 175 = false := by kernel_rfl

/-- A step of a drawn region that is wanted. -/
theorem step_wanted {b : Bool} {A E : Prop} (hw : b = true) (h : A) : if b = true then A else E := by rw [if_pos hw]; exact h
/-- The comparison of two arrays of fourteen ints. -/
theorem oper_eql14 {w : World} {o : Oper} {a : Act} {K : Act → World → Prop} {Q : Exit → Act → World → Prop} (x y : Operand) (t : TypeId)
    (ho : o.op = .binOp .eql 175 x y t) (l m : List Int) (hl : l.length = 14) (hm : m.length = 14) (hx : a.eval x = .agg (l.map intV).toArray) (hy : a.eval y = .agg (m.map intV).toArray)
    (h : K (a.put o.dst (.bool (decide (l = m)))) w) : Oper.wp Tryz.prog o a w K Q := by
  unfold Oper.wp
  simp only [execOp, ho, hx, hy]
  have e1 : (eqGuard .eql 175 x y (.agg (l.map intV).toArray) (.agg (m.map intV).toArray)).run Tryz.prog w = .ok () w := by
    simp [eqGuard]
  have e2 : (binOp .eql 175 (.agg (l.map intV).toArray) (.agg (m.map intV).toArray)).run Tryz.prog w = .ok (.bool (decide (l = m))) w := by
    simp only [binOp, Sem.run_bind, run_equal14 w l m hl hm]
    rfl
  simp [Sem.run_bind, e1, e2, Result.andThen]
  exact h
end Go.Proofs.YtpdmlklnbjegpaaGreat
