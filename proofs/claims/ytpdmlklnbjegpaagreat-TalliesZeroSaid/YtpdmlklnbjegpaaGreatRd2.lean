/- The reference's reader: Count, Numbers. -/
import Derived.Test.YtpdmlklnbjegpaaGreatRd1
namespace Go.Proofs.YtpdmlklnbjegpaaGreat
open Go.RowKit

/-- append of ints to ints of the call's own. -/
theorem app_ints (w : World) {ops : Array Oper} {rest : List Oper} {o : Oper} {a : Act} {Q : Exit → Act → World → Prop} (hgd : o.guard = none) (s x : Operand)
    (ho : o.op = .call { callee := .builtin .append, args := #[s, x], argTypes := #[37, 37] }) (base : Nat)
    (sa : Option Addr) (sn sc : Nat) (xs : List Int) (hs : a.eval s = .slice sa sn sc) (hown : w.ownsRow base 3 1 (.slice sa sn sc) sn (xs.map intV))
    (xa : Option Addr) (m xc : Nat) (ys : List Int) (hx : a.eval x = .slice xa m xc) (hrd : RdI w xa m xc ys) (hbytes : (sn + m) * 8 ≤ 140737488355328) (hbase : base ≤ w.heap.size)
    (h : ∀ a' c' w', w'.ownsRow base 3 1 (.slice a' (sn + m) c') (sn + m) ((xs ++ ys).map intV) → w.grownBy w' (Value.ownBlock (.slice sa sn sc)) → wpList Tryz.prog ops Q rest (a.put o.dst (.slice a' (sn + m) c')) w') :
    wpList Tryz.prog ops Q (o :: rest) a w := by
  obtain ⟨i, hi, hz0, hz1, hz2⟩ := info_parts infoInt
  exact wpList_append_rd w hgd s x 37 ho base 3 i (.int .i64 0) 1 8 Tryz.underlying37 hi hz0 hz1 hz2 rfl (by decide) sa sn sc _ hs hown xa m xc _ hx hrd (intV_one _) (by unfold maxLen; omega) hbytes hbase
    (fun a' c' w' h1 h2 => h a' c' w' (by rw [List.map_append]; exact h1) h2)
/-- What Numbers has read, or that something was wrong. -/
def NumsRel (l : List UInt8) (at0 : Nat) (bad : Bool) (ys : List Int) (at' : Nat) (bad' : Bool) : Prop :=
  ((bad' = false ∧ bad = false ∧ ∃ k t1, lenF numR (l.drop at0) = some (k, t1) ∧ many numR k t1 = some (ys, l.drop at')) ∨ (bad' = true ∧ (bad = true ∨ lenF numR (l.drop at0) = none ∨ ∃ k t1, lenF numR (l.drop at0) = some (k, t1) ∧ many numR k t1 = none)))
end Go.Proofs.YtpdmlklnbjegpaaGreat
