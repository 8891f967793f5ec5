/-
  No cell of these rows narrows 'for every input' (looked for: loops, veiled, ifaces, maps, wideKeys, modest, calm, conditions, laid).
  DERIVED. THE GIVEN ROWS OF THIS SEAT. 3 by the template 'for every input the law returns true; each argument reads behind the call as it read before'; 0 by the template 'total and deterministic' (their statements: YtpdmlklnbjegpaaGreatTotals.lean).
  GIVEN WITH THE SEED: the statements are not yours to turn. If you find one false, say at which input.
  Laid BY PROGRAM, IN A SANDBOX (cutbox-rows.mjs): the forced cells as the released guide's own fill.sh prints them over the translation cc51f0278535f43d… (all of the seat's roots in one cut). By AI agents, Wed Nov 11 2026. No macro, syntax, notation, axiom, sorry.
-/
import Derived.Test.YtpdmlklnbjegpaaGreatChecked
import GoSem.Claim
import GoSem.ClaimJoined
import GoSem.ClaimMapViews
import Derived.JoinedTies
import Derived.KernelRfl
namespace Go.Proofs.YtpdmlklnbjegpaaGreat
/- THE CELL 'sum', in the pinned program and in every row, IS THE sha256 OF THE DUMP (.gsa) THAT YtpdmlklnbjegpaaGreatProg.lean LOADS. Nothing in Lean hashes anything: it is a label: what it is worth is what the hold of that sum in a sandbox is worth. -/
noncomputable def Tryz.pinned : Pinned := { name := "ytpdmlklnbjegpaagreat", sum := "cc51f0278535f43db965561de16757efd7376e0741cfd647105795fab697417c", checked := Tryz.checked }
namespace Rows
def none {H : Type} : Left H := { results := [], args := [] }

/-- 'millrindlaw09.TalliesGap': WHATEVER THE INPUT: true; the input reads as it did. -/
def talliesGapSpec : ChangeSpec := { name := "talliesGap", fn := fun _ => fun
  | [d1, d2, d3] => { results := [.lit (.bool true)], args := [d1, d2, d3] }
  | _ => none }
def talliesGapRow : OpenClaim := { program := "ytpdmlklnbjegpaagreat", sum := "cc51f0278535f43db965561de16757efd7376e0741cfd647105795fab697417c", func := "millrind/millrindlaw09.TalliesGap", spec := "talliesGap", inPlace := ["maps.clone"], unfollowed := true, recurses := true, plainKeys := false, apart := false }
def TalliesGapSaid : Prop := talliesGapRow.holds Tryz.pinned (OpenSpec.ofChange talliesGapSpec)

/-- ITS FALSE NEIGHBOUR: 'it returns false'. Refute it at one input. -/
def talliesGapWrong : ChangeSpec := { name := "talliesGap", fn := fun _ => fun
  | [d1, d2, d3] => { results := [.lit (.bool false)], args := [d1, d2, d3] }
  | _ => none }
def TalliesGapWrongFalsely : Prop := talliesGapRow.holds Tryz.pinned (OpenSpec.ofChange talliesGapWrong)

/-- 'millrindlaw09.TalliesPower': WHATEVER THE INPUT: true; the input reads as it did. -/
def talliesPowerSpec : ChangeSpec := { name := "talliesPower", fn := fun _ => fun
  | [d1, d2, d3, d4, d5] => { results := [.lit (.bool true)], args := [d1, d2, d3, d4, d5] }
  | _ => none }
def talliesPowerRow : OpenClaim := { program := "ytpdmlklnbjegpaagreat", sum := "cc51f0278535f43db965561de16757efd7376e0741cfd647105795fab697417c", func := "millrind/millrindlaw09.TalliesPower", spec := "talliesPower", inPlace := ["maps.clone"], unfollowed := true, recurses := true, plainKeys := false, apart := false }
def TalliesPowerSaid : Prop := talliesPowerRow.holds Tryz.pinned (OpenSpec.ofChange talliesPowerSpec)

/-- ITS FALSE NEIGHBOUR: 'it returns false'. Refute it at one input. -/
def talliesPowerWrong : ChangeSpec := { name := "talliesPower", fn := fun _ => fun
  | [d1, d2, d3, d4, d5] => { results := [.lit (.bool false)], args := [d1, d2, d3, d4, d5] }
  | _ => none }
def TalliesPowerWrongFalsely : Prop := talliesPowerRow.holds Tryz.pinned (OpenSpec.ofChange talliesPowerWrong)

/-- 'millrindlaw09.TalliesZero': WHATEVER THE INPUT: true; the input reads as it did. -/
def talliesZeroSpec : ChangeSpec := { name := "talliesZero", fn := fun _ => fun
  | [d1, d2, d3, d4] => { results := [.lit (.bool true)], args := [d1, d2, d3, d4] }
  | _ => none }
def talliesZeroRow : OpenClaim := { program := "ytpdmlklnbjegpaagreat", sum := "cc51f0278535f43db965561de16757efd7376e0741cfd647105795fab697417c", func := "millrind/millrindlaw09.TalliesZero", spec := "talliesZero", inPlace := ["maps.clone"], unfollowed := true, recurses := true, plainKeys := false, apart := false }
def TalliesZeroSaid : Prop := talliesZeroRow.holds Tryz.pinned (OpenSpec.ofChange talliesZeroSpec)

/-- ITS FALSE NEIGHBOUR: 'it returns false'. Refute it at one input. -/
def talliesZeroWrong : ChangeSpec := { name := "talliesZero", fn := fun _ => fun
  | [d1, d2, d3, d4] => { results := [.lit (.bool false)], args := [d1, d2, d3, d4] }
  | _ => none }
def TalliesZeroWrongFalsely : Prop := talliesZeroRow.holds Tryz.pinned (OpenSpec.ofChange talliesZeroWrong)

/- THE SECOND FORM. 'bulk': how many values and letters a reading holds, each counted each time it is reached (what is shared counts as often as it is met; a slice's spare places count too). A statement '..UptoSaid' is the law's where the arguments, and the package variables that the reading takes, are together of bulk at most 1048576: NARROWER than '..Said'. Prove '..Said' where nothing that the law and all that it calls make is longer than what came in: it says more and counts as full. Else prove '..UptoSaid'. A law counts once. -/
mutual
def uptoBulk {H : Type} : DataW H → Nat
  | .lit (.string bytes) => bytes.length + 1
  | .lit _ => 1
  | .nil => 1
  | .ptr d => uptoBulk d + 1
  | .slice elems spare => uptoBulkAll elems + uptoBulkAll spare + 1
  | .agg parts => uptoBulkAll parts + 1
  | .iface _ d => uptoBulk d + 1
  | .map entries => uptoBulkEntries entries + 1
  | .held _ => 1
def uptoBulkAll {H : Type} : List (DataW H) → Nat
  | [] => 0
  | d :: r => uptoBulk d + uptoBulkAll r
def uptoBulkEntries {H : Type} : List (Lit × DataW H) → Nat
  | [] => 0
  | x :: r => uptoBulkEntry x + uptoBulkEntries r
def uptoBulkEntry {H : Type} : Lit × DataW H → Nat
  | (.string bytes, d) => bytes.length + uptoBulk d + 1
  | (_, d) => uptoBulk d + 1
 end
def uptoSmall : (H : Type) → List (DataW H) → Bool := fun _ ds => decide (uptoBulkAll ds ≤ 1048576)
def OpenSpec.upto (s : _root_.Go.ChangeSpec) : _root_.Go.OpenSpec := { _root_.Go.OpenSpec.ofChange s with cond := some uptoSmall }

/-- 'millrindlaw09.TalliesGap', WHERE WHAT IT READS IS OF BULK AT MOST 1048576: true; the input reads as it did. -/
def talliesGapUptoRow : OpenClaim := { program := "ytpdmlklnbjegpaagreat", sum := "cc51f0278535f43db965561de16757efd7376e0741cfd647105795fab697417c", func := "millrind/millrindlaw09.TalliesGap", spec := "talliesGap", inPlace := ["maps.clone"], unfollowed := true, recurses := true, plainKeys := false, apart := false, narrowed := true }
def TalliesGapUptoSaid : Prop := talliesGapUptoRow.holds Tryz.pinned (OpenSpec.upto talliesGapSpec)

/-- 'millrindlaw09.TalliesPower', WHERE WHAT IT READS IS OF BULK AT MOST 1048576: true; the input reads as it did. -/
def talliesPowerUptoRow : OpenClaim := { program := "ytpdmlklnbjegpaagreat", sum := "cc51f0278535f43db965561de16757efd7376e0741cfd647105795fab697417c", func := "millrind/millrindlaw09.TalliesPower", spec := "talliesPower", inPlace := ["maps.clone"], unfollowed := true, recurses := true, plainKeys := false, apart := false, narrowed := true }
def TalliesPowerUptoSaid : Prop := talliesPowerUptoRow.holds Tryz.pinned (OpenSpec.upto talliesPowerSpec)

/-- 'millrindlaw09.TalliesZero', WHERE WHAT IT READS IS OF BULK AT MOST 1048576: true; the input reads as it did. -/
def talliesZeroUptoRow : OpenClaim := { program := "ytpdmlklnbjegpaagreat", sum := "cc51f0278535f43db965561de16757efd7376e0741cfd647105795fab697417c", func := "millrind/millrindlaw09.TalliesZero", spec := "talliesZero", inPlace := ["maps.clone"], unfollowed := true, recurses := true, plainKeys := false, apart := false, narrowed := true }
def TalliesZeroUptoSaid : Prop := talliesZeroUptoRow.holds Tryz.pinned (OpenSpec.upto talliesZeroSpec)

end Rows
end Go.Proofs.YtpdmlklnbjegpaaGreat
