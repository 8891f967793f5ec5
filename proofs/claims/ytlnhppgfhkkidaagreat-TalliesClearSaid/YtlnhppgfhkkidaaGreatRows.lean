/-
  No cell of these rows narrows 'for every input' (looked for: loops, veiled, ifaces, maps, wideKeys, modest, calm, conditions, laid).
  DERIVED. THE GIVEN ROWS OF THIS SEAT. 7 by the template 'for every input the law returns true; each argument reads behind the call as it read before'; 0 by the template 'total and deterministic' (their statements: YtlnhppgfhkkidaaGreatTotals.lean).
  GIVEN WITH THE SEED: the statements are not yours to turn. If you find one false, say at which input.
  Laid BY PROGRAM, IN A SANDBOX (cutbox-rows.mjs): the forced cells as the released guide's own fill.sh prints them over the translation 296ca649d87d0122… (all of the seat's roots in one cut). By AI agents, Wed Nov 11 2026. No macro, syntax, notation, axiom, sorry.
-/
import Derived.Test.YtlnhppgfhkkidaaGreatChecked
import GoSem.Claim
import GoSem.ClaimJoined
import GoSem.ClaimMapViews
import Derived.JoinedTies
import Derived.KernelRfl
namespace Go.Proofs.YtlnhppgfhkkidaaGreat
/- THE CELL 'sum', in the pinned program and in every row, IS THE sha256 OF THE DUMP (.gsa) THAT YtlnhppgfhkkidaaGreatProg.lean LOADS. Nothing in Lean hashes anything: it is a label: what it is worth is what the hold of that sum in a sandbox is worth. -/
noncomputable def Tryz.pinned : Pinned := { name := "ytlnhppgfhkkidaagreat", sum := "296ca649d87d01223f24f63bf879a64125538ab11187194d7ba556b397d1fa9a", checked := Tryz.checked }
namespace Rows
def none {H : Type} : Left H := { results := [], args := [] }

/-- 'millrindlaw09.TalliesGap': WHATEVER THE INPUT: true; the input reads as it did. -/
def talliesGapSpec : ChangeSpec := { name := "talliesGap", fn := fun _ => fun
  | [d1, d2, d3] => { results := [.lit (.bool true)], args := [d1, d2, d3] }
  | _ => none }
def talliesGapRow : OpenClaim := { program := "ytlnhppgfhkkidaagreat", sum := "296ca649d87d01223f24f63bf879a64125538ab11187194d7ba556b397d1fa9a", func := "millrind/millrindlaw09.TalliesGap", spec := "talliesGap", inPlace := ["maps.clone"], unfollowed := true, recurses := true, plainKeys := false, apart := false }
def TalliesGapSaid : Prop := talliesGapRow.holds Tryz.pinned (OpenSpec.ofChange talliesGapSpec)

/-- ITS FALSE NEIGHBOUR: 'it returns false'. Refute it at one input. -/
def talliesGapWrong : ChangeSpec := { name := "talliesGap", fn := fun _ => fun
  | [d1, d2, d3] => { results := [.lit (.bool false)], args := [d1, d2, d3] }
  | _ => none }
def TalliesGapWrongFalsely : Prop := talliesGapRow.holds Tryz.pinned (OpenSpec.ofChange talliesGapWrong)

/-- 'millrindlaw09.TalliesPower': WHATEVER THE INPUT: true; the input reads as it did. -/
def talliesPowerSpec : ChangeSpec := { name := "talliesPower", fn := fun _ => fun
  | [d1, d2, d3, d4, d5] => { results := [.lit (.bool true)], args := [d1, d2, d3, d4, d5] }
  | _ => none }
def talliesPowerRow : OpenClaim := { program := "ytlnhppgfhkkidaagreat", sum := "296ca649d87d01223f24f63bf879a64125538ab11187194d7ba556b397d1fa9a", func := "millrind/millrindlaw09.TalliesPower", spec := "talliesPower", inPlace := ["maps.clone"], unfollowed := true, recurses := true, plainKeys := false, apart := false }
def TalliesPowerSaid : Prop := talliesPowerRow.holds Tryz.pinned (OpenSpec.ofChange talliesPowerSpec)

/-- ITS FALSE NEIGHBOUR: 'it returns false'. Refute it at one input. -/
def talliesPowerWrong : ChangeSpec := { name := "talliesPower", fn := fun _ => fun
  | [d1, d2, d3, d4, d5] => { results := [.lit (.bool false)], args := [d1, d2, d3, d4, d5] }
  | _ => none }
def TalliesPowerWrongFalsely : Prop := talliesPowerRow.holds Tryz.pinned (OpenSpec.ofChange talliesPowerWrong)

/-- 'millrindlaw09.TalliesHouses': WHATEVER THE INPUT: true; the input reads as it did. -/
def talliesHousesSpec : ChangeSpec := { name := "talliesHouses", fn := fun _ => fun
  | [d1, d2, d3] => { results := [.lit (.bool true)], args := [d1, d2, d3] }
  | _ => none }
def talliesHousesRow : OpenClaim := { program := "ytlnhppgfhkkidaagreat", sum := "296ca649d87d01223f24f63bf879a64125538ab11187194d7ba556b397d1fa9a", func := "millrind/millrindlaw09.TalliesHouses", spec := "talliesHouses", inPlace := ["maps.clone"], unfollowed := true, recurses := true, plainKeys := false, apart := false }
def TalliesHousesSaid : Prop := talliesHousesRow.holds Tryz.pinned (OpenSpec.ofChange talliesHousesSpec)

/-- ITS FALSE NEIGHBOUR: 'it returns false'. Refute it at one input. -/
def talliesHousesWrong : ChangeSpec := { name := "talliesHouses", fn := fun _ => fun
  | [d1, d2, d3] => { results := [.lit (.bool false)], args := [d1, d2, d3] }
  | _ => none }
def TalliesHousesWrongFalsely : Prop := talliesHousesRow.holds Tryz.pinned (OpenSpec.ofChange talliesHousesWrong)

/-- 'millrindlaw09.TalliesClear': WHATEVER THE INPUT: true; the input reads as it did. -/
def talliesClearSpec : ChangeSpec := { name := "talliesClear", fn := fun _ => fun
  | [d1, d2, d3] => { results := [.lit (.bool true)], args := [d1, d2, d3] }
  | _ => none }
def talliesClearRow : OpenClaim := { program := "ytlnhppgfhkkidaagreat", sum := "296ca649d87d01223f24f63bf879a64125538ab11187194d7ba556b397d1fa9a", func := "millrind/millrindlaw09.TalliesClear", spec := "talliesClear", inPlace := ["maps.clone"], unfollowed := true, recurses := true, plainKeys := false, apart := false }
def TalliesClearSaid : Prop := talliesClearRow.holds Tryz.pinned (OpenSpec.ofChange talliesClearSpec)

/-- ITS FALSE NEIGHBOUR: 'it returns false'. Refute it at one input. -/
def talliesClearWrong : ChangeSpec := { name := "talliesClear", fn := fun _ => fun
  | [d1, d2, d3] => { results := [.lit (.bool false)], args := [d1, d2, d3] }
  | _ => none }
def TalliesClearWrongFalsely : Prop := talliesClearRow.holds Tryz.pinned (OpenSpec.ofChange talliesClearWrong)

/-- 'millrindlaw09.TalliesHonest': WHATEVER THE INPUT: true; the input reads as it did. -/
def talliesHonestSpec : ChangeSpec := { name := "talliesHonest", fn := fun _ => fun
  | [d1, d2, d3] => { results := [.lit (.bool true)], args := [d1, d2, d3] }
  | _ => none }
def talliesHonestRow : OpenClaim := { program := "ytlnhppgfhkkidaagreat", sum := "296ca649d87d01223f24f63bf879a64125538ab11187194d7ba556b397d1fa9a", func := "millrind/millrindlaw09.TalliesHonest", spec := "talliesHonest", inPlace := ["maps.clone"], unfollowed := true, recurses := true, plainKeys := false, apart := false }
def TalliesHonestSaid : Prop := talliesHonestRow.holds Tryz.pinned (OpenSpec.ofChange talliesHonestSpec)

/-- ITS FALSE NEIGHBOUR: 'it returns false'. Refute it at one input. -/
def talliesHonestWrong : ChangeSpec := { name := "talliesHonest", fn := fun _ => fun
  | [d1, d2, d3] => { results := [.lit (.bool false)], args := [d1, d2, d3] }
  | _ => none }
def TalliesHonestWrongFalsely : Prop := talliesHonestRow.holds Tryz.pinned (OpenSpec.ofChange talliesHonestWrong)

/-- 'millrindlaw09.TalliesWorlds': WHATEVER THE INPUT: true; the input reads as it did. -/
def talliesWorldsSpec : ChangeSpec := { name := "talliesWorlds", fn := fun _ => fun
  | [d1, d2, d3] => { results := [.lit (.bool true)], args := [d1, d2, d3] }
  | _ => none }
def talliesWorldsRow : OpenClaim := { program := "ytlnhppgfhkkidaagreat", sum := "296ca649d87d01223f24f63bf879a64125538ab11187194d7ba556b397d1fa9a", func := "millrind/millrindlaw09.TalliesWorlds", spec := "talliesWorlds", inPlace := ["maps.clone"], unfollowed := true, recurses := true, plainKeys := false, apart := false }
def TalliesWorldsSaid : Prop := talliesWorldsRow.holds Tryz.pinned (OpenSpec.ofChange talliesWorldsSpec)

/-- ITS FALSE NEIGHBOUR: 'it returns false'. Refute it at one input. -/
def talliesWorldsWrong : ChangeSpec := { name := "talliesWorlds", fn := fun _ => fun
  | [d1, d2, d3] => { results := [.lit (.bool false)], args := [d1, d2, d3] }
  | _ => none }
def TalliesWorldsWrongFalsely : Prop := talliesWorldsRow.holds Tryz.pinned (OpenSpec.ofChange talliesWorldsWrong)

/-- 'millrindlaw09.TalliesSettle': WHATEVER THE INPUT: true; the input reads as it did. -/
def talliesSettleSpec : ChangeSpec := { name := "talliesSettle", fn := fun _ => fun
  | [d1, d2, d3] => { results := [.lit (.bool true)], args := [d1, d2, d3] }
  | _ => none }
def talliesSettleRow : OpenClaim := { program := "ytlnhppgfhkkidaagreat", sum := "296ca649d87d01223f24f63bf879a64125538ab11187194d7ba556b397d1fa9a", func := "millrind/millrindlaw09.TalliesSettle", spec := "talliesSettle", inPlace := ["maps.clone"], unfollowed := true, recurses := true, plainKeys := false, apart := false }
def TalliesSettleSaid : Prop := talliesSettleRow.holds Tryz.pinned (OpenSpec.ofChange talliesSettleSpec)

/-- ITS FALSE NEIGHBOUR: 'it returns false'. Refute it at one input. -/
def talliesSettleWrong : ChangeSpec := { name := "talliesSettle", fn := fun _ => fun
  | [d1, d2, d3] => { results := [.lit (.bool false)], args := [d1, d2, d3] }
  | _ => none }
def TalliesSettleWrongFalsely : Prop := talliesSettleRow.holds Tryz.pinned (OpenSpec.ofChange talliesSettleWrong)

/- THE SECOND FORM. 'bulk': how many values and letters a reading holds, each counted each time it is reached (what is shared counts as often as it is met; a slice's spare places count too). A statement '..UptoSaid' is the law's where the arguments, and the package variables that the reading takes, are together of bulk at most 1048576: NARROWER than '..Said'. Prove '..Said' where nothing that the law and all that it calls make is longer than what came in: it says more and counts as full. Else prove '..UptoSaid'. A law counts once. -/
mutual
def uptoBulk {H : Type} : DataW H → Nat
  | .lit (.string bytes) => bytes.length + 1
  | .lit _ => 1
  | .nil => 1
  | .ptr d => uptoBulk d + 1
  | .slice elems spare => uptoBulkAll elems + uptoBulkAll spare + 1
  | .agg parts => uptoBulkAll parts + 1
  | .iface _ d => uptoBulk d + 1
  | .map entries => uptoBulkEntries entries + 1
  | .held _ => 1
def uptoBulkAll {H : Type} : List (DataW H) → Nat
  | [] => 0
  | d :: r => uptoBulk d + uptoBulkAll r
def uptoBulkEntries {H : Type} : List (Lit × DataW H) → Nat
  | [] => 0
  | x :: r => uptoBulkEntry x + uptoBulkEntries r
def uptoBulkEntry {H : Type} : Lit × DataW H → Nat
  | (.string bytes, d) => bytes.length + uptoBulk d + 1
  | (_, d) => uptoBulk d + 1
 end
def uptoSmall : (H : Type) → List (DataW H) → Bool := fun _ ds => decide (uptoBulkAll ds ≤ 1048576)
def OpenSpec.upto (s : _root_.Go.ChangeSpec) : _root_.Go.OpenSpec := { _root_.Go.OpenSpec.ofChange s with cond := some uptoSmall }

/-- 'millrindlaw09.TalliesGap', WHERE WHAT IT READS IS OF BULK AT MOST 1048576: true; the input reads as it did. -/
def talliesGapUptoRow : OpenClaim := { program := "ytlnhppgfhkkidaagreat", sum := "296ca649d87d01223f24f63bf879a64125538ab11187194d7ba556b397d1fa9a", func := "millrind/millrindlaw09.TalliesGap", spec := "talliesGap", inPlace := ["maps.clone"], unfollowed := true, recurses := true, plainKeys := false, apart := false, narrowed := true }
def TalliesGapUptoSaid : Prop := talliesGapUptoRow.holds Tryz.pinned (OpenSpec.upto talliesGapSpec)

/-- 'millrindlaw09.TalliesPower', WHERE WHAT IT READS IS OF BULK AT MOST 1048576: true; the input reads as it did. -/
def talliesPowerUptoRow : OpenClaim := { program := "ytlnhppgfhkkidaagreat", sum := "296ca649d87d01223f24f63bf879a64125538ab11187194d7ba556b397d1fa9a", func := "millrind/millrindlaw09.TalliesPower", spec := "talliesPower", inPlace := ["maps.clone"], unfollowed := true, recurses := true, plainKeys := false, apart := false, narrowed := true }
def TalliesPowerUptoSaid : Prop := talliesPowerUptoRow.holds Tryz.pinned (OpenSpec.upto talliesPowerSpec)

/-- 'millrindlaw09.TalliesHouses', WHERE WHAT IT READS IS OF BULK AT MOST 1048576: true; the input reads as it did. -/
def talliesHousesUptoRow : OpenClaim := { program := "ytlnhppgfhkkidaagreat", sum := "296ca649d87d01223f24f63bf879a64125538ab11187194d7ba556b397d1fa9a", func := "millrind/millrindlaw09.TalliesHouses", spec := "talliesHouses", inPlace := ["maps.clone"], unfollowed := true, recurses := true, plainKeys := false, apart := false, narrowed := true }
def TalliesHousesUptoSaid : Prop := talliesHousesUptoRow.holds Tryz.pinned (OpenSpec.upto talliesHousesSpec)

/-- 'millrindlaw09.TalliesClear', WHERE WHAT IT READS IS OF BULK AT MOST 1048576: true; the input reads as it did. -/
def talliesClearUptoRow : OpenClaim := { program := "ytlnhppgfhkkidaagreat", sum := "296ca649d87d01223f24f63bf879a64125538ab11187194d7ba556b397d1fa9a", func := "millrind/millrindlaw09.TalliesClear", spec := "talliesClear", inPlace := ["maps.clone"], unfollowed := true, recurses := true, plainKeys := false, apart := false, narrowed := true }
def TalliesClearUptoSaid : Prop := talliesClearUptoRow.holds Tryz.pinned (OpenSpec.upto talliesClearSpec)

/-- 'millrindlaw09.TalliesHonest', WHERE WHAT IT READS IS OF BULK AT MOST 1048576: true; the input reads as it did. -/
def talliesHonestUptoRow : OpenClaim := { program := "ytlnhppgfhkkidaagreat", sum := "296ca649d87d01223f24f63bf879a64125538ab11187194d7ba556b397d1fa9a", func := "millrind/millrindlaw09.TalliesHonest", spec := "talliesHonest", inPlace := ["maps.clone"], unfollowed := true, recurses := true, plainKeys := false, apart := false, narrowed := true }
def TalliesHonestUptoSaid : Prop := talliesHonestUptoRow.holds Tryz.pinned (OpenSpec.upto talliesHonestSpec)

/-- 'millrindlaw09.TalliesWorlds', WHERE WHAT IT READS IS OF BULK AT MOST 1048576: true; the input reads as it did. -/
def talliesWorldsUptoRow : OpenClaim := { program := "ytlnhppgfhkkidaagreat", sum := "296ca649d87d01223f24f63bf879a64125538ab11187194d7ba556b397d1fa9a", func := "millrind/millrindlaw09.TalliesWorlds", spec := "talliesWorlds", inPlace := ["maps.clone"], unfollowed := true, recurses := true, plainKeys := false, apart := false, narrowed := true }
def TalliesWorldsUptoSaid : Prop := talliesWorldsUptoRow.holds Tryz.pinned (OpenSpec.upto talliesWorldsSpec)

/-- 'millrindlaw09.TalliesSettle', WHERE WHAT IT READS IS OF BULK AT MOST 1048576: true; the input reads as it did. -/
def talliesSettleUptoRow : OpenClaim := { program := "ytlnhppgfhkkidaagreat", sum := "296ca649d87d01223f24f63bf879a64125538ab11187194d7ba556b397d1fa9a", func := "millrind/millrindlaw09.TalliesSettle", spec := "talliesSettle", inPlace := ["maps.clone"], unfollowed := true, recurses := true, plainKeys := false, apart := false, narrowed := true }
def TalliesSettleUptoSaid : Prop := talliesSettleUptoRow.holds Tryz.pinned (OpenSpec.upto talliesSettleSpec)

end Rows
end Go.Proofs.YtlnhppgfhkkidaaGreat
