/-
  No cell of these rows narrows 'for every input' (looked for: loops, veiled, ifaces, maps, wideKeys, modest, calm, conditions, laid).
  DERIVED. THE GIVEN ROWS OF THIS SEAT. 7 by the template 'for every input the law returns true; each argument reads behind the call as it read before'; 0 by the template 'total and deterministic' (their statements: YtpjiakgfegnmcaaGreatTotals.lean).
  GIVEN WITH THE SEED: the statements are not yours to turn. If you find one false, say at which input.
  Laid BY PROGRAM, IN A SANDBOX (cutbox-rows.mjs): the forced cells as the released guide's own fill.sh prints them over the translation 82d2daaadbf0c25c… (all of the seat's roots in one cut). By AI agents, Wed Nov 11 2026. No macro, syntax, notation, axiom, sorry.
-/
import Derived.Test.YtpjiakgfegnmcaaGreatChecked
import GoSem.Claim
import GoSem.ClaimJoined
import GoSem.ClaimMapViews
import Derived.JoinedTies
import Derived.KernelRfl
namespace Go.Proofs.YtpjiakgfegnmcaaGreat
/- THE CELL 'sum', in the pinned program and in every row, IS THE sha256 OF THE DUMP (.gsa) THAT YtpjiakgfegnmcaaGreatProg.lean LOADS. Nothing in Lean hashes anything: it is a label: what it is worth is what the hold of that sum in a sandbox is worth. -/
noncomputable def Tryz.pinned : Pinned := { name := "ytpjiakgfegnmcaagreat", sum := "82d2daaadbf0c25c5df6117760f11199028eb4ee5793f42c55e1e83a8a020ce7", checked := Tryz.checked }
namespace Rows
def none {H : Type} : Left H := { results := [], args := [] }

/-- 'millrindlaw08.HistoryLooks': WHATEVER THE INPUT: true; the input reads as it did. -/
def historyLooksSpec : ChangeSpec := { name := "historyLooks", fn := fun _ => fun
  | [d1, d2, d3] => { results := [.lit (.bool true)], args := [d1, d2, d3] }
  | _ => none }
def historyLooksRow : OpenClaim := { program := "ytpjiakgfegnmcaagreat", sum := "82d2daaadbf0c25c5df6117760f11199028eb4ee5793f42c55e1e83a8a020ce7", func := "millrind/millrindlaw08.HistoryLooks", spec := "historyLooks", unfollowed := true, recurses := true, plainKeys := false, apart := false }
def HistoryLooksSaid : Prop := historyLooksRow.holds Tryz.pinned (OpenSpec.ofChange historyLooksSpec)

/-- ITS FALSE NEIGHBOUR: 'it returns false'. Refute it at one input. -/
def historyLooksWrong : ChangeSpec := { name := "historyLooks", fn := fun _ => fun
  | [d1, d2, d3] => { results := [.lit (.bool false)], args := [d1, d2, d3] }
  | _ => none }
def HistoryLooksWrongFalsely : Prop := historyLooksRow.holds Tryz.pinned (OpenSpec.ofChange historyLooksWrong)

/-- 'millrindlaw08.HistoryRegisters': WHATEVER THE INPUT: true; the input reads as it did. -/
def historyRegistersSpec : ChangeSpec := { name := "historyRegisters", fn := fun _ => fun
  | [d1, d2, d3] => { results := [.lit (.bool true)], args := [d1, d2, d3] }
  | _ => none }
def historyRegistersRow : OpenClaim := { program := "ytpjiakgfegnmcaagreat", sum := "82d2daaadbf0c25c5df6117760f11199028eb4ee5793f42c55e1e83a8a020ce7", func := "millrind/millrindlaw08.HistoryRegisters", spec := "historyRegisters", unfollowed := true, recurses := true, plainKeys := false, apart := false }
def HistoryRegistersSaid : Prop := historyRegistersRow.holds Tryz.pinned (OpenSpec.ofChange historyRegistersSpec)

/-- ITS FALSE NEIGHBOUR: 'it returns false'. Refute it at one input. -/
def historyRegistersWrong : ChangeSpec := { name := "historyRegisters", fn := fun _ => fun
  | [d1, d2, d3] => { results := [.lit (.bool false)], args := [d1, d2, d3] }
  | _ => none }
def HistoryRegistersWrongFalsely : Prop := historyRegistersRow.holds Tryz.pinned (OpenSpec.ofChange historyRegistersWrong)

/-- 'millrindlaw08.HistoryNotes': WHATEVER THE INPUT: true; the input reads as it did. -/
def historyNotesSpec : ChangeSpec := { name := "historyNotes", fn := fun _ => fun
  | [d1, d2] => { results := [.lit (.bool true)], args := [d1, d2] }
  | _ => none }
def historyNotesRow : OpenClaim := { program := "ytpjiakgfegnmcaagreat", sum := "82d2daaadbf0c25c5df6117760f11199028eb4ee5793f42c55e1e83a8a020ce7", func := "millrind/millrindlaw08.HistoryNotes", spec := "historyNotes", unfollowed := true, recurses := true, plainKeys := false, apart := false }
def HistoryNotesSaid : Prop := historyNotesRow.holds Tryz.pinned (OpenSpec.ofChange historyNotesSpec)

/-- ITS FALSE NEIGHBOUR: 'it returns false'. Refute it at one input. -/
def historyNotesWrong : ChangeSpec := { name := "historyNotes", fn := fun _ => fun
  | [d1, d2] => { results := [.lit (.bool false)], args := [d1, d2] }
  | _ => none }
def HistoryNotesWrongFalsely : Prop := historyNotesRow.holds Tryz.pinned (OpenSpec.ofChange historyNotesWrong)

/-- 'millrindlaw08.HistoryCorrects': WHATEVER THE INPUT: true; the input reads as it did. -/
def historyCorrectsSpec : ChangeSpec := { name := "historyCorrects", fn := fun _ => fun
  | [d1, d2, d3] => { results := [.lit (.bool true)], args := [d1, d2, d3] }
  | _ => none }
def historyCorrectsRow : OpenClaim := { program := "ytpjiakgfegnmcaagreat", sum := "82d2daaadbf0c25c5df6117760f11199028eb4ee5793f42c55e1e83a8a020ce7", func := "millrind/millrindlaw08.HistoryCorrects", spec := "historyCorrects", unfollowed := true, recurses := true, plainKeys := false, apart := false }
def HistoryCorrectsSaid : Prop := historyCorrectsRow.holds Tryz.pinned (OpenSpec.ofChange historyCorrectsSpec)

/-- ITS FALSE NEIGHBOUR: 'it returns false'. Refute it at one input. -/
def historyCorrectsWrong : ChangeSpec := { name := "historyCorrects", fn := fun _ => fun
  | [d1, d2, d3] => { results := [.lit (.bool false)], args := [d1, d2, d3] }
  | _ => none }
def HistoryCorrectsWrongFalsely : Prop := historyCorrectsRow.holds Tryz.pinned (OpenSpec.ofChange historyCorrectsWrong)

/-- 'millrindlaw08.HistoryFolds': WHATEVER THE INPUT: true; the input reads as it did. -/
def historyFoldsSpec : ChangeSpec := { name := "historyFolds", fn := fun _ => fun
  | [d1, d2, d3] => { results := [.lit (.bool true)], args := [d1, d2, d3] }
  | _ => none }
def historyFoldsRow : OpenClaim := { program := "ytpjiakgfegnmcaagreat", sum := "82d2daaadbf0c25c5df6117760f11199028eb4ee5793f42c55e1e83a8a020ce7", func := "millrind/millrindlaw08.HistoryFolds", spec := "historyFolds", unfollowed := true, recurses := true, plainKeys := false, apart := false }
def HistoryFoldsSaid : Prop := historyFoldsRow.holds Tryz.pinned (OpenSpec.ofChange historyFoldsSpec)

/-- ITS FALSE NEIGHBOUR: 'it returns false'. Refute it at one input. -/
def historyFoldsWrong : ChangeSpec := { name := "historyFolds", fn := fun _ => fun
  | [d1, d2, d3] => { results := [.lit (.bool false)], args := [d1, d2, d3] }
  | _ => none }
def HistoryFoldsWrongFalsely : Prop := historyFoldsRow.holds Tryz.pinned (OpenSpec.ofChange historyFoldsWrong)

/-- 'millrindlaw08.HistoryMerges': WHATEVER THE INPUT: true; the input reads as it did. -/
def historyMergesSpec : ChangeSpec := { name := "historyMerges", fn := fun _ => fun
  | [d1, d2, d3] => { results := [.lit (.bool true)], args := [d1, d2, d3] }
  | _ => none }
def historyMergesRow : OpenClaim := { program := "ytpjiakgfegnmcaagreat", sum := "82d2daaadbf0c25c5df6117760f11199028eb4ee5793f42c55e1e83a8a020ce7", func := "millrind/millrindlaw08.HistoryMerges", spec := "historyMerges", unfollowed := true, recurses := true, plainKeys := false, apart := false }
def HistoryMergesSaid : Prop := historyMergesRow.holds Tryz.pinned (OpenSpec.ofChange historyMergesSpec)

/-- ITS FALSE NEIGHBOUR: 'it returns false'. Refute it at one input. -/
def historyMergesWrong : ChangeSpec := { name := "historyMerges", fn := fun _ => fun
  | [d1, d2, d3] => { results := [.lit (.bool false)], args := [d1, d2, d3] }
  | _ => none }
def HistoryMergesWrongFalsely : Prop := historyMergesRow.holds Tryz.pinned (OpenSpec.ofChange historyMergesWrong)

/-- 'millrindlaw08.HistoryUnion': WHATEVER THE INPUT: true; the input reads as it did. -/
def historyUnionSpec : ChangeSpec := { name := "historyUnion", fn := fun _ => fun
  | [d1, d2, d3] => { results := [.lit (.bool true)], args := [d1, d2, d3] }
  | _ => none }
def historyUnionRow : OpenClaim := { program := "ytpjiakgfegnmcaagreat", sum := "82d2daaadbf0c25c5df6117760f11199028eb4ee5793f42c55e1e83a8a020ce7", func := "millrind/millrindlaw08.HistoryUnion", spec := "historyUnion", unfollowed := true, recurses := true, plainKeys := false, apart := false }
def HistoryUnionSaid : Prop := historyUnionRow.holds Tryz.pinned (OpenSpec.ofChange historyUnionSpec)

/-- ITS FALSE NEIGHBOUR: 'it returns false'. Refute it at one input. -/
def historyUnionWrong : ChangeSpec := { name := "historyUnion", fn := fun _ => fun
  | [d1, d2, d3] => { results := [.lit (.bool false)], args := [d1, d2, d3] }
  | _ => none }
def HistoryUnionWrongFalsely : Prop := historyUnionRow.holds Tryz.pinned (OpenSpec.ofChange historyUnionWrong)

/- THE SECOND FORM. 'bulk': how many values and letters a reading holds, each counted each time it is reached (what is shared counts as often as it is met; a slice's spare places count too). A statement '..UptoSaid' is the law's where the arguments, and the package variables that the reading takes, are together of bulk at most 1048576: NARROWER than '..Said'. Prove '..Said' where nothing that the law and all that it calls make is longer than what came in: it says more and counts as full. Else prove '..UptoSaid'. A law counts once. -/
mutual
def uptoBulk {H : Type} : DataW H → Nat
  | .lit (.string bytes) => bytes.length + 1
  | .lit _ => 1
  | .nil => 1
  | .ptr d => uptoBulk d + 1
  | .slice elems spare => uptoBulkAll elems + uptoBulkAll spare + 1
  | .agg parts => uptoBulkAll parts + 1
  | .iface _ d => uptoBulk d + 1
  | .map entries => uptoBulkEntries entries + 1
  | .held _ => 1
def uptoBulkAll {H : Type} : List (DataW H) → Nat
  | [] => 0
  | d :: r => uptoBulk d + uptoBulkAll r
def uptoBulkEntries {H : Type} : List (Lit × DataW H) → Nat
  | [] => 0
  | x :: r => uptoBulkEntry x + uptoBulkEntries r
def uptoBulkEntry {H : Type} : Lit × DataW H → Nat
  | (.string bytes, d) => bytes.length + uptoBulk d + 1
  | (_, d) => uptoBulk d + 1
 end
def uptoSmall : (H : Type) → List (DataW H) → Bool := fun _ ds => decide (uptoBulkAll ds ≤ 1048576)
def OpenSpec.upto (s : _root_.Go.ChangeSpec) : _root_.Go.OpenSpec := { _root_.Go.OpenSpec.ofChange s with cond := some uptoSmall }

/-- 'millrindlaw08.HistoryLooks', WHERE WHAT IT READS IS OF BULK AT MOST 1048576: true; the input reads as it did. -/
def historyLooksUptoRow : OpenClaim := { program := "ytpjiakgfegnmcaagreat", sum := "82d2daaadbf0c25c5df6117760f11199028eb4ee5793f42c55e1e83a8a020ce7", func := "millrind/millrindlaw08.HistoryLooks", spec := "historyLooks", unfollowed := true, recurses := true, plainKeys := false, apart := false, narrowed := true }
def HistoryLooksUptoSaid : Prop := historyLooksUptoRow.holds Tryz.pinned (OpenSpec.upto historyLooksSpec)

/-- 'millrindlaw08.HistoryRegisters', WHERE WHAT IT READS IS OF BULK AT MOST 1048576: true; the input reads as it did. -/
def historyRegistersUptoRow : OpenClaim := { program := "ytpjiakgfegnmcaagreat", sum := "82d2daaadbf0c25c5df6117760f11199028eb4ee5793f42c55e1e83a8a020ce7", func := "millrind/millrindlaw08.HistoryRegisters", spec := "historyRegisters", unfollowed := true, recurses := true, plainKeys := false, apart := false, narrowed := true }
def HistoryRegistersUptoSaid : Prop := historyRegistersUptoRow.holds Tryz.pinned (OpenSpec.upto historyRegistersSpec)

/-- 'millrindlaw08.HistoryNotes', WHERE WHAT IT READS IS OF BULK AT MOST 1048576: true; the input reads as it did. -/
def historyNotesUptoRow : OpenClaim := { program := "ytpjiakgfegnmcaagreat", sum := "82d2daaadbf0c25c5df6117760f11199028eb4ee5793f42c55e1e83a8a020ce7", func := "millrind/millrindlaw08.HistoryNotes", spec := "historyNotes", unfollowed := true, recurses := true, plainKeys := false, apart := false, narrowed := true }
def HistoryNotesUptoSaid : Prop := historyNotesUptoRow.holds Tryz.pinned (OpenSpec.upto historyNotesSpec)

/-- 'millrindlaw08.HistoryCorrects', WHERE WHAT IT READS IS OF BULK AT MOST 1048576: true; the input reads as it did. -/
def historyCorrectsUptoRow : OpenClaim := { program := "ytpjiakgfegnmcaagreat", sum := "82d2daaadbf0c25c5df6117760f11199028eb4ee5793f42c55e1e83a8a020ce7", func := "millrind/millrindlaw08.HistoryCorrects", spec := "historyCorrects", unfollowed := true, recurses := true, plainKeys := false, apart := false, narrowed := true }
def HistoryCorrectsUptoSaid : Prop := historyCorrectsUptoRow.holds Tryz.pinned (OpenSpec.upto historyCorrectsSpec)

/-- 'millrindlaw08.HistoryFolds', WHERE WHAT IT READS IS OF BULK AT MOST 1048576: true; the input reads as it did. -/
def historyFoldsUptoRow : OpenClaim := { program := "ytpjiakgfegnmcaagreat", sum := "82d2daaadbf0c25c5df6117760f11199028eb4ee5793f42c55e1e83a8a020ce7", func := "millrind/millrindlaw08.HistoryFolds", spec := "historyFolds", unfollowed := true, recurses := true, plainKeys := false, apart := false, narrowed := true }
def HistoryFoldsUptoSaid : Prop := historyFoldsUptoRow.holds Tryz.pinned (OpenSpec.upto historyFoldsSpec)

/-- 'millrindlaw08.HistoryMerges', WHERE WHAT IT READS IS OF BULK AT MOST 1048576: true; the input reads as it did. -/
def historyMergesUptoRow : OpenClaim := { program := "ytpjiakgfegnmcaagreat", sum := "82d2daaadbf0c25c5df6117760f11199028eb4ee5793f42c55e1e83a8a020ce7", func := "millrind/millrindlaw08.HistoryMerges", spec := "historyMerges", unfollowed := true, recurses := true, plainKeys := false, apart := false, narrowed := true }
def HistoryMergesUptoSaid : Prop := historyMergesUptoRow.holds Tryz.pinned (OpenSpec.upto historyMergesSpec)

/-- 'millrindlaw08.HistoryUnion', WHERE WHAT IT READS IS OF BULK AT MOST 1048576: true; the input reads as it did. -/
def historyUnionUptoRow : OpenClaim := { program := "ytpjiakgfegnmcaagreat", sum := "82d2daaadbf0c25c5df6117760f11199028eb4ee5793f42c55e1e83a8a020ce7", func := "millrind/millrindlaw08.HistoryUnion", spec := "historyUnion", unfollowed := true, recurses := true, plainKeys := false, apart := false, narrowed := true }
def HistoryUnionUptoSaid : Prop := historyUnionUptoRow.holds Tryz.pinned (OpenSpec.upto historyUnionSpec)

end Rows
end Go.Proofs.YtpjiakgfegnmcaaGreat
