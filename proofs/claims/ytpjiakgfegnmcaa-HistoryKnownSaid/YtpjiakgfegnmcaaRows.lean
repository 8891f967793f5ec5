/-
  No cell of these rows narrows 'for every input' (looked for: loops, veiled, ifaces, maps, wideKeys, modest, calm, conditions, laid).
  DERIVED. THE GIVEN ROWS OF THIS SEAT. 5 by the template 'for every input the law returns true; each argument reads behind the call as it read before'; 0 by the template 'total and deterministic' (their statements: YtpjiakgfegnmcaaTotals.lean).
  GIVEN WITH THE SEED: the statements are not yours to turn. If you find one false, say at which input.
  Laid BY PROGRAM, IN A SANDBOX (cutbox-rows.mjs): the forced cells as the released guide's own fill.sh prints them over the translation 2f824a66884275f0… (all of the seat's roots in one cut). By AI agents, Wed Nov 11 2026. No macro, syntax, notation, axiom, sorry.
-/
import Derived.Test.YtpjiakgfegnmcaaChecked
import GoSem.Claim
import GoSem.ClaimJoined
import GoSem.ClaimMapViews
import Derived.JoinedTies
import Derived.KernelRfl
namespace Go.Proofs.Ytpjiakgfegnmcaa
/- THE CELL 'sum', in the pinned program and in every row, IS THE sha256 OF THE DUMP (.gsa) THAT YtpjiakgfegnmcaaProg.lean LOADS. Nothing in Lean hashes anything: it is a label: what it is worth is what the hold of that sum in a sandbox is worth. -/
noncomputable def Try.pinned : Pinned := { name := "ytpjiakgfegnmcaa", sum := "2f824a66884275f0effe266f7d7e79e7243ed095a1797c8d1f38065116d86cdd", checked := Try.checked }
namespace Rows
def none {H : Type} : Left H := { results := [], args := [] }

/-- 'millrindlaw09.TalliesNotches': WHATEVER THE INPUT: true; the input reads as it did. -/
def talliesNotchesSpec : ChangeSpec := { name := "talliesNotches", fn := fun _ => fun
  | [d1, d2, d3] => { results := [.lit (.bool true)], args := [d1, d2, d3] }
  | _ => none }
def talliesNotchesRow : OpenClaim := { program := "ytpjiakgfegnmcaa", sum := "2f824a66884275f0effe266f7d7e79e7243ed095a1797c8d1f38065116d86cdd", func := "millrind/millrindlaw09.TalliesNotches", spec := "talliesNotches", unfollowed := true, recurses := true, plainKeys := false, apart := false }
def TalliesNotchesSaid : Prop := talliesNotchesRow.holds Try.pinned (OpenSpec.ofChange talliesNotchesSpec)

/-- ITS FALSE NEIGHBOUR: 'it returns false'. Refute it at one input. -/
def talliesNotchesWrong : ChangeSpec := { name := "talliesNotches", fn := fun _ => fun
  | [d1, d2, d3] => { results := [.lit (.bool false)], args := [d1, d2, d3] }
  | _ => none }
def TalliesNotchesWrongFalsely : Prop := talliesNotchesRow.holds Try.pinned (OpenSpec.ofChange talliesNotchesWrong)

/-- 'millrindlaw09.TalliesHalves': WHATEVER THE INPUT: true; the input reads as it did. -/
def talliesHalvesSpec : ChangeSpec := { name := "talliesHalves", fn := fun _ => fun
  | [d1, d2, d3, d4] => { results := [.lit (.bool true)], args := [d1, d2, d3, d4] }
  | _ => none }
def talliesHalvesRow : OpenClaim := { program := "ytpjiakgfegnmcaa", sum := "2f824a66884275f0effe266f7d7e79e7243ed095a1797c8d1f38065116d86cdd", func := "millrind/millrindlaw09.TalliesHalves", spec := "talliesHalves", unfollowed := true, recurses := true, plainKeys := false, apart := false }
def TalliesHalvesSaid : Prop := talliesHalvesRow.holds Try.pinned (OpenSpec.ofChange talliesHalvesSpec)

/-- ITS FALSE NEIGHBOUR: 'it returns false'. Refute it at one input. -/
def talliesHalvesWrong : ChangeSpec := { name := "talliesHalves", fn := fun _ => fun
  | [d1, d2, d3, d4] => { results := [.lit (.bool false)], args := [d1, d2, d3, d4] }
  | _ => none }
def TalliesHalvesWrongFalsely : Prop := talliesHalvesRow.holds Try.pinned (OpenSpec.ofChange talliesHalvesWrong)

/-- 'millrindlaw09.TalliesSticks': WHATEVER THE INPUT: true; the input reads as it did. -/
def talliesSticksSpec : ChangeSpec := { name := "talliesSticks", fn := fun _ => fun
  | [d] => { results := [.lit (.bool true)], args := [d] }
  | _ => none }
def talliesSticksRow : OpenClaim := { program := "ytpjiakgfegnmcaa", sum := "2f824a66884275f0effe266f7d7e79e7243ed095a1797c8d1f38065116d86cdd", func := "millrind/millrindlaw09.TalliesSticks", spec := "talliesSticks", unfollowed := true, recurses := true, plainKeys := false, apart := false }
def TalliesSticksSaid : Prop := talliesSticksRow.holds Try.pinned (OpenSpec.ofChange talliesSticksSpec)

/-- ITS FALSE NEIGHBOUR: 'it returns false'. Refute it at one input. -/
def talliesSticksWrong : ChangeSpec := { name := "talliesSticks", fn := fun _ => fun
  | [d] => { results := [.lit (.bool false)], args := [d] }
  | _ => none }
def TalliesSticksWrongFalsely : Prop := talliesSticksRow.holds Try.pinned (OpenSpec.ofChange talliesSticksWrong)

/-- 'millrindlaw09.TalliesBytes': WHATEVER THE INPUT: true; the input reads as it did. -/
def talliesBytesSpec : ChangeSpec := { name := "talliesBytes", fn := fun _ => fun
  | [d1, d2, d3] => { results := [.lit (.bool true)], args := [d1, d2, d3] }
  | _ => none }
def talliesBytesRow : OpenClaim := { program := "ytpjiakgfegnmcaa", sum := "2f824a66884275f0effe266f7d7e79e7243ed095a1797c8d1f38065116d86cdd", func := "millrind/millrindlaw09.TalliesBytes", spec := "talliesBytes", unfollowed := true, recurses := true, plainKeys := false, apart := false }
def TalliesBytesSaid : Prop := talliesBytesRow.holds Try.pinned (OpenSpec.ofChange talliesBytesSpec)

/-- ITS FALSE NEIGHBOUR: 'it returns false'. Refute it at one input. -/
def talliesBytesWrong : ChangeSpec := { name := "talliesBytes", fn := fun _ => fun
  | [d1, d2, d3] => { results := [.lit (.bool false)], args := [d1, d2, d3] }
  | _ => none }
def TalliesBytesWrongFalsely : Prop := talliesBytesRow.holds Try.pinned (OpenSpec.ofChange talliesBytesWrong)

/-- 'millrindlaw08.HistoryKnown': WHATEVER THE INPUT: true; the input reads as it did. -/
def historyKnownSpec : ChangeSpec := { name := "historyKnown", fn := fun _ => fun
  | [d1, d2, d3] => { results := [.lit (.bool true)], args := [d1, d2, d3] }
  | _ => none }
def historyKnownRow : OpenClaim := { program := "ytpjiakgfegnmcaa", sum := "2f824a66884275f0effe266f7d7e79e7243ed095a1797c8d1f38065116d86cdd", func := "millrind/millrindlaw08.HistoryKnown", spec := "historyKnown", unfollowed := true, recurses := true, plainKeys := false, apart := false }
def HistoryKnownSaid : Prop := historyKnownRow.holds Try.pinned (OpenSpec.ofChange historyKnownSpec)

/-- ITS FALSE NEIGHBOUR: 'it returns false'. Refute it at one input. -/
def historyKnownWrong : ChangeSpec := { name := "historyKnown", fn := fun _ => fun
  | [d1, d2, d3] => { results := [.lit (.bool false)], args := [d1, d2, d3] }
  | _ => none }
def HistoryKnownWrongFalsely : Prop := historyKnownRow.holds Try.pinned (OpenSpec.ofChange historyKnownWrong)

/- THE SECOND FORM. 'bulk': how many values and letters a reading holds, each counted each time it is reached (what is shared counts as often as it is met; a slice's spare places count too). A statement '..UptoSaid' is the law's where the arguments, and the package variables that the reading takes, are together of bulk at most 1048576: NARROWER than '..Said'. Prove '..Said' where nothing that the law and all that it calls make is longer than what came in: it says more and counts as full. Else prove '..UptoSaid'. A law counts once. -/
mutual
def uptoBulk {H : Type} : DataW H → Nat
  | .lit (.string bytes) => bytes.length + 1
  | .lit _ => 1
  | .nil => 1
  | .ptr d => uptoBulk d + 1
  | .slice elems spare => uptoBulkAll elems + uptoBulkAll spare + 1
  | .agg parts => uptoBulkAll parts + 1
  | .iface _ d => uptoBulk d + 1
  | .map entries => uptoBulkEntries entries + 1
  | .held _ => 1
def uptoBulkAll {H : Type} : List (DataW H) → Nat
  | [] => 0
  | d :: r => uptoBulk d + uptoBulkAll r
def uptoBulkEntries {H : Type} : List (Lit × DataW H) → Nat
  | [] => 0
  | x :: r => uptoBulkEntry x + uptoBulkEntries r
def uptoBulkEntry {H : Type} : Lit × DataW H → Nat
  | (.string bytes, d) => bytes.length + uptoBulk d + 1
  | (_, d) => uptoBulk d + 1
 end
def uptoSmall : (H : Type) → List (DataW H) → Bool := fun _ ds => decide (uptoBulkAll ds ≤ 1048576)
def OpenSpec.upto (s : _root_.Go.ChangeSpec) : _root_.Go.OpenSpec := { _root_.Go.OpenSpec.ofChange s with cond := some uptoSmall }

/-- 'millrindlaw09.TalliesNotches', WHERE WHAT IT READS IS OF BULK AT MOST 1048576: true; the input reads as it did. -/
def talliesNotchesUptoRow : OpenClaim := { program := "ytpjiakgfegnmcaa", sum := "2f824a66884275f0effe266f7d7e79e7243ed095a1797c8d1f38065116d86cdd", func := "millrind/millrindlaw09.TalliesNotches", spec := "talliesNotches", unfollowed := true, recurses := true, plainKeys := false, apart := false, narrowed := true }
def TalliesNotchesUptoSaid : Prop := talliesNotchesUptoRow.holds Try.pinned (OpenSpec.upto talliesNotchesSpec)

/-- 'millrindlaw09.TalliesHalves', WHERE WHAT IT READS IS OF BULK AT MOST 1048576: true; the input reads as it did. -/
def talliesHalvesUptoRow : OpenClaim := { program := "ytpjiakgfegnmcaa", sum := "2f824a66884275f0effe266f7d7e79e7243ed095a1797c8d1f38065116d86cdd", func := "millrind/millrindlaw09.TalliesHalves", spec := "talliesHalves", unfollowed := true, recurses := true, plainKeys := false, apart := false, narrowed := true }
def TalliesHalvesUptoSaid : Prop := talliesHalvesUptoRow.holds Try.pinned (OpenSpec.upto talliesHalvesSpec)

/-- 'millrindlaw09.TalliesSticks', WHERE WHAT IT READS IS OF BULK AT MOST 1048576: true; the input reads as it did. -/
def talliesSticksUptoRow : OpenClaim := { program := "ytpjiakgfegnmcaa", sum := "2f824a66884275f0effe266f7d7e79e7243ed095a1797c8d1f38065116d86cdd", func := "millrind/millrindlaw09.TalliesSticks", spec := "talliesSticks", unfollowed := true, recurses := true, plainKeys := false, apart := false, narrowed := true }
def TalliesSticksUptoSaid : Prop := talliesSticksUptoRow.holds Try.pinned (OpenSpec.upto talliesSticksSpec)

/-- 'millrindlaw09.TalliesBytes', WHERE WHAT IT READS IS OF BULK AT MOST 1048576: true; the input reads as it did. -/
def talliesBytesUptoRow : OpenClaim := { program := "ytpjiakgfegnmcaa", sum := "2f824a66884275f0effe266f7d7e79e7243ed095a1797c8d1f38065116d86cdd", func := "millrind/millrindlaw09.TalliesBytes", spec := "talliesBytes", unfollowed := true, recurses := true, plainKeys := false, apart := false, narrowed := true }
def TalliesBytesUptoSaid : Prop := talliesBytesUptoRow.holds Try.pinned (OpenSpec.upto talliesBytesSpec)

/-- 'millrindlaw08.HistoryKnown', WHERE WHAT IT READS IS OF BULK AT MOST 1048576: true; the input reads as it did. -/
def historyKnownUptoRow : OpenClaim := { program := "ytpjiakgfegnmcaa", sum := "2f824a66884275f0effe266f7d7e79e7243ed095a1797c8d1f38065116d86cdd", func := "millrind/millrindlaw08.HistoryKnown", spec := "historyKnown", unfollowed := true, recurses := true, plainKeys := false, apart := false, narrowed := true }
def HistoryKnownUptoSaid : Prop := historyKnownUptoRow.holds Try.pinned (OpenSpec.upto historyKnownSpec)

end Rows
end Go.Proofs.Ytpjiakgfegnmcaa
