/- The reference's right, kind by kind. -/
import Derived.Test.YtpdmlklnbjegpaaGreatHis6
import Derived.Test.YtpdmlklnbjegpaaGreatRh2
import Derived.Test.YtpdmlklnbjegpaaGreatRh3
namespace Go.Proofs.YtpdmlklnbjegpaaGreat
open Go.RowKit

/-- What right says of the content of a kind. -/
def rightB (f : FrV) (k : Int) (n : NoteV) : Bool :=
  if k = 1 then spansB n.hardLo n.hardHi 1 255 else if k = 2 then inB n.turns 1 10000
  else if k = 3 then inB n.stone 0 1 && (inB n.a 0 (f.rings * f.sectors - 1) && (inB n.b (-1) (f.rings * f.sectors - 1) && (decide (n.a ≠ n.b) && spansB n.diffLo n.diffHi (-1000000000) 1000000000)))
  else if k = 4 then inB n.stone 0 1 && (inB n.ring 0 (f.rings - 1) && strokesB (f.sectors - f.wide) n.strokes)
  else false
section
attribute [local go_sem] noteA_0 noteA_1 noteA_2 noteA_3 noteA_4 noteA_5 noteA_6 noteA_7 noteA_8 noteA_9 noteA_10 noteA_11 noteA_12 noteA_13 noteA_14 noteA_15 noteA_16 noteA_17 noteA_18
variable (f : FrV) (n : NoteV) (sa : Option Addr) (sc : Nat) (w : World)
end
theorem bareR_other {k : Int} (hk : ¬ (1 ≤ k ∧ k ≤ 4)) (n : NoteV) : bareR k n = bare0 n := by
  unfold bareR
  rw [if_neg (by omega), if_neg (by omega), if_neg (by omega), if_neg (by omega)]
end Go.Proofs.YtpdmlklnbjegpaaGreat
