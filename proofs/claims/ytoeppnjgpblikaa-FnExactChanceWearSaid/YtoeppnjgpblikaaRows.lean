/-
  No cell of these rows narrows 'for every input' (looked for: loops, veiled, ifaces, maps, wideKeys, modest, calm, conditions, laid).
  DERIVED. THE GIVEN ROWS OF THIS SEAT. 12 by the template 'for every input the law returns true; each argument reads behind the call as it read before'; 0 by the template 'total and deterministic' (their statements: YtoeppnjgpblikaaTotals.lean).
  GIVEN WITH THE SEED: the statements are not yours to turn. If you find one false, say at which input.
  Laid BY PROGRAM, IN A SANDBOX (cutbox-rows.mjs): the forced cells as the released guide's own fill.sh prints them over the translation 8a717262675038ab… (all of the seat's roots in one cut). By AI agents, Wed Nov 11 2026. No macro, syntax, notation, axiom, sorry.
-/
import Derived.Test.YtoeppnjgpblikaaChecked
import GoSem.Claim
import GoSem.ClaimJoined
import GoSem.ClaimMapViews
import Derived.JoinedTies
import Derived.KernelRfl
namespace Go.Proofs.Ytoeppnjgpblikaa
/- THE CELL 'sum', in the pinned program and in every row, IS THE sha256 OF THE DUMP (.gsa) THAT YtoeppnjgpblikaaProg.lean LOADS. Nothing in Lean hashes anything: it is a label: what it is worth is what the hold of that sum in a sandbox is worth. -/
noncomputable def Try.pinned : Pinned := { name := "ytoeppnjgpblikaa", sum := "8a717262675038abd95644d0581e46faf30743d756bf0310b86016f507b0ac90", checked := Try.checked }
namespace Rows
def none {H : Type} : Left H := { results := [], args := [] }

/-- 'laws.FnExactIsInWood': WHATEVER THE INPUT: true; the input reads as it did. -/
def fnExactIsInWoodSpec : ChangeSpec := { name := "fnExactIsInWood", fn := fun _ => fun
  | [d1, d2] => { results := [.lit (.bool true)], args := [d1, d2] }
  | _ => none }
def fnExactIsInWoodRow : OpenClaim := { program := "ytoeppnjgpblikaa", sum := "8a717262675038abd95644d0581e46faf30743d756bf0310b86016f507b0ac90", func := "loop.example/g01263/laws.FnExactIsInWood", spec := "fnExactIsInWood", apart := false }
def FnExactIsInWoodSaid : Prop := fnExactIsInWoodRow.holds Try.pinned (OpenSpec.ofChange fnExactIsInWoodSpec)

/-- ITS FALSE NEIGHBOUR: 'it returns false'. Refute it at one input. -/
def fnExactIsInWoodWrong : ChangeSpec := { name := "fnExactIsInWood", fn := fun _ => fun
  | [d1, d2] => { results := [.lit (.bool false)], args := [d1, d2] }
  | _ => none }
def FnExactIsInWoodWrongFalsely : Prop := fnExactIsInWoodRow.holds Try.pinned (OpenSpec.ofChange fnExactIsInWoodWrong)

/-- 'laws.FnExactCountWood': WHATEVER THE INPUT: true; the input reads as it did. -/
def fnExactCountWoodSpec : ChangeSpec := { name := "fnExactCountWood", fn := fun _ => fun
  | [d] => { results := [.lit (.bool true)], args := [d] }
  | _ => none }
def fnExactCountWoodRow : OpenClaim := { program := "ytoeppnjgpblikaa", sum := "8a717262675038abd95644d0581e46faf30743d756bf0310b86016f507b0ac90", func := "loop.example/g01263/laws.FnExactCountWood", spec := "fnExactCountWood", apart := false }
def FnExactCountWoodSaid : Prop := fnExactCountWoodRow.holds Try.pinned (OpenSpec.ofChange fnExactCountWoodSpec)

/-- ITS FALSE NEIGHBOUR: 'it returns false'. Refute it at one input. -/
def fnExactCountWoodWrong : ChangeSpec := { name := "fnExactCountWood", fn := fun _ => fun
  | [d] => { results := [.lit (.bool false)], args := [d] }
  | _ => none }
def FnExactCountWoodWrongFalsely : Prop := fnExactCountWoodRow.holds Try.pinned (OpenSpec.ofChange fnExactCountWoodWrong)

/-- 'laws.FnExactWornPlaces': WHATEVER THE INPUT: true; the input reads as it did. -/
def fnExactWornPlacesSpec : ChangeSpec := { name := "fnExactWornPlaces", fn := fun _ => fun
  | [d1, d2] => { results := [.lit (.bool true)], args := [d1, d2] }
  | _ => none }
def fnExactWornPlacesRow : OpenClaim := { program := "ytoeppnjgpblikaa", sum := "8a717262675038abd95644d0581e46faf30743d756bf0310b86016f507b0ac90", func := "loop.example/g01263/laws.FnExactWornPlaces", spec := "fnExactWornPlaces", apart := false }
def FnExactWornPlacesSaid : Prop := fnExactWornPlacesRow.holds Try.pinned (OpenSpec.ofChange fnExactWornPlacesSpec)

/-- ITS FALSE NEIGHBOUR: 'it returns false'. Refute it at one input. -/
def fnExactWornPlacesWrong : ChangeSpec := { name := "fnExactWornPlaces", fn := fun _ => fun
  | [d1, d2] => { results := [.lit (.bool false)], args := [d1, d2] }
  | _ => none }
def FnExactWornPlacesWrongFalsely : Prop := fnExactWornPlacesRow.holds Try.pinned (OpenSpec.ofChange fnExactWornPlacesWrong)

/-- 'laws.FnExactSameVerdict': WHATEVER THE INPUT: true; the input reads as it did. -/
def fnExactSameVerdictSpec : ChangeSpec := { name := "fnExactSameVerdict", fn := fun _ => fun
  | [d1, d2] => { results := [.lit (.bool true)], args := [d1, d2] }
  | _ => none }
def fnExactSameVerdictRow : OpenClaim := { program := "ytoeppnjgpblikaa", sum := "8a717262675038abd95644d0581e46faf30743d756bf0310b86016f507b0ac90", func := "loop.example/g01263/laws.FnExactSameVerdict", spec := "fnExactSameVerdict", apart := false }
def FnExactSameVerdictSaid : Prop := fnExactSameVerdictRow.holds Try.pinned (OpenSpec.ofChange fnExactSameVerdictSpec)

/-- ITS FALSE NEIGHBOUR: 'it returns false'. Refute it at one input. -/
def fnExactSameVerdictWrong : ChangeSpec := { name := "fnExactSameVerdict", fn := fun _ => fun
  | [d1, d2] => { results := [.lit (.bool false)], args := [d1, d2] }
  | _ => none }
def FnExactSameVerdictWrongFalsely : Prop := fnExactSameVerdictRow.holds Try.pinned (OpenSpec.ofChange fnExactSameVerdictWrong)

/-- 'laws.FnExactChanceWear': WHATEVER THE INPUT: true; the input reads as it did. -/
def fnExactChanceWearSpec : ChangeSpec := { name := "fnExactChanceWear", fn := fun _ => fun
  | [d1, d2, d3] => { results := [.lit (.bool true)], args := [d1, d2, d3] }
  | _ => none }
def fnExactChanceWearRow : OpenClaim := { program := "ytoeppnjgpblikaa", sum := "8a717262675038abd95644d0581e46faf30743d756bf0310b86016f507b0ac90", func := "loop.example/g01263/laws.FnExactChanceWear", spec := "fnExactChanceWear", apart := false }
def FnExactChanceWearSaid : Prop := fnExactChanceWearRow.holds Try.pinned (OpenSpec.ofChange fnExactChanceWearSpec)

/-- ITS FALSE NEIGHBOUR: 'it returns false'. Refute it at one input. -/
def fnExactChanceWearWrong : ChangeSpec := { name := "fnExactChanceWear", fn := fun _ => fun
  | [d1, d2, d3] => { results := [.lit (.bool false)], args := [d1, d2, d3] }
  | _ => none }
def FnExactChanceWearWrongFalsely : Prop := fnExactChanceWearRow.holds Try.pinned (OpenSpec.ofChange fnExactChanceWearWrong)

/-- 'laws.FnExactWoodOf': WHATEVER THE INPUT: true; the input reads as it did. -/
def fnExactWoodOfSpec : ChangeSpec := { name := "fnExactWoodOf", fn := fun _ => fun
  | [d] => { results := [.lit (.bool true)], args := [d] }
  | _ => none }
def fnExactWoodOfRow : OpenClaim := { program := "ytoeppnjgpblikaa", sum := "8a717262675038abd95644d0581e46faf30743d756bf0310b86016f507b0ac90", func := "loop.example/g01263/laws.FnExactWoodOf", spec := "fnExactWoodOf", apart := false }
def FnExactWoodOfSaid : Prop := fnExactWoodOfRow.holds Try.pinned (OpenSpec.ofChange fnExactWoodOfSpec)

/-- ITS FALSE NEIGHBOUR: 'it returns false'. Refute it at one input. -/
def fnExactWoodOfWrong : ChangeSpec := { name := "fnExactWoodOf", fn := fun _ => fun
  | [d] => { results := [.lit (.bool false)], args := [d] }
  | _ => none }
def FnExactWoodOfWrongFalsely : Prop := fnExactWoodOfRow.holds Try.pinned (OpenSpec.ofChange fnExactWoodOfWrong)

/-- 'laws.FnWorn': WHATEVER THE INPUT: true; the input reads as it did. -/
def fnWornSpec : ChangeSpec := { name := "fnWorn", fn := fun _ => fun
  | [d1, d2] => { results := [.lit (.bool true)], args := [d1, d2] }
  | _ => none }
def fnWornRow : OpenClaim := { program := "ytoeppnjgpblikaa", sum := "8a717262675038abd95644d0581e46faf30743d756bf0310b86016f507b0ac90", func := "loop.example/g01263/laws.FnWorn", spec := "fnWorn", apart := false }
def FnWornSaid : Prop := fnWornRow.holds Try.pinned (OpenSpec.ofChange fnWornSpec)

/-- ITS FALSE NEIGHBOUR: 'it returns false'. Refute it at one input. -/
def fnWornWrong : ChangeSpec := { name := "fnWorn", fn := fun _ => fun
  | [d1, d2] => { results := [.lit (.bool false)], args := [d1, d2] }
  | _ => none }
def FnWornWrongFalsely : Prop := fnWornRow.holds Try.pinned (OpenSpec.ofChange fnWornWrong)

/-- 'laws.FnExactCouldBecome': WHATEVER THE INPUT: true; the input reads as it did. -/
def fnExactCouldBecomeSpec : ChangeSpec := { name := "fnExactCouldBecome", fn := fun _ => fun
  | [d1, d2] => { results := [.lit (.bool true)], args := [d1, d2] }
  | _ => none }
def fnExactCouldBecomeRow : OpenClaim := { program := "ytoeppnjgpblikaa", sum := "8a717262675038abd95644d0581e46faf30743d756bf0310b86016f507b0ac90", func := "loop.example/g01263/laws.FnExactCouldBecome", spec := "fnExactCouldBecome", apart := false }
def FnExactCouldBecomeSaid : Prop := fnExactCouldBecomeRow.holds Try.pinned (OpenSpec.ofChange fnExactCouldBecomeSpec)

/-- ITS FALSE NEIGHBOUR: 'it returns false'. Refute it at one input. -/
def fnExactCouldBecomeWrong : ChangeSpec := { name := "fnExactCouldBecome", fn := fun _ => fun
  | [d1, d2] => { results := [.lit (.bool false)], args := [d1, d2] }
  | _ => none }
def FnExactCouldBecomeWrongFalsely : Prop := fnExactCouldBecomeRow.holds Try.pinned (OpenSpec.ofChange fnExactCouldBecomeWrong)

/-- 'laws.FnExactWhoLies': WHATEVER THE INPUT: true; the input reads as it did. -/
def fnExactWhoLiesSpec : ChangeSpec := { name := "fnExactWhoLies", fn := fun _ => fun
  | [d1, d2] => { results := [.lit (.bool true)], args := [d1, d2] }
  | _ => none }
def fnExactWhoLiesRow : OpenClaim := { program := "ytoeppnjgpblikaa", sum := "8a717262675038abd95644d0581e46faf30743d756bf0310b86016f507b0ac90", func := "loop.example/g01263/laws.FnExactWhoLies", spec := "fnExactWhoLies", apart := false }
def FnExactWhoLiesSaid : Prop := fnExactWhoLiesRow.holds Try.pinned (OpenSpec.ofChange fnExactWhoLiesSpec)

/-- ITS FALSE NEIGHBOUR: 'it returns false'. Refute it at one input. -/
def fnExactWhoLiesWrong : ChangeSpec := { name := "fnExactWhoLies", fn := fun _ => fun
  | [d1, d2] => { results := [.lit (.bool false)], args := [d1, d2] }
  | _ => none }
def FnExactWhoLiesWrongFalsely : Prop := fnExactWhoLiesRow.holds Try.pinned (OpenSpec.ofChange fnExactWhoLiesWrong)

/-- 'laws.FnExactFindFoil': WHATEVER THE INPUT: true; the input reads as it did. -/
def fnExactFindFoilSpec : ChangeSpec := { name := "fnExactFindFoil", fn := fun _ => fun
  | [d1, d2, d3] => { results := [.lit (.bool true)], args := [d1, d2, d3] }
  | _ => none }
def fnExactFindFoilRow : OpenClaim := { program := "ytoeppnjgpblikaa", sum := "8a717262675038abd95644d0581e46faf30743d756bf0310b86016f507b0ac90", func := "loop.example/g01263/laws.FnExactFindFoil", spec := "fnExactFindFoil", apart := false }
def FnExactFindFoilSaid : Prop := fnExactFindFoilRow.holds Try.pinned (OpenSpec.ofChange fnExactFindFoilSpec)

/-- ITS FALSE NEIGHBOUR: 'it returns false'. Refute it at one input. -/
def fnExactFindFoilWrong : ChangeSpec := { name := "fnExactFindFoil", fn := fun _ => fun
  | [d1, d2, d3] => { results := [.lit (.bool false)], args := [d1, d2, d3] }
  | _ => none }
def FnExactFindFoilWrongFalsely : Prop := fnExactFindFoilRow.holds Try.pinned (OpenSpec.ofChange fnExactFindFoilWrong)

/-- 'laws.FnExactNearestFoil': WHATEVER THE INPUT: true; the input reads as it did. -/
def fnExactNearestFoilSpec : ChangeSpec := { name := "fnExactNearestFoil", fn := fun _ => fun
  | [d1, d2] => { results := [.lit (.bool true)], args := [d1, d2] }
  | _ => none }
def fnExactNearestFoilRow : OpenClaim := { program := "ytoeppnjgpblikaa", sum := "8a717262675038abd95644d0581e46faf30743d756bf0310b86016f507b0ac90", func := "loop.example/g01263/laws.FnExactNearestFoil", spec := "fnExactNearestFoil", apart := false }
def FnExactNearestFoilSaid : Prop := fnExactNearestFoilRow.holds Try.pinned (OpenSpec.ofChange fnExactNearestFoilSpec)

/-- ITS FALSE NEIGHBOUR: 'it returns false'. Refute it at one input. -/
def fnExactNearestFoilWrong : ChangeSpec := { name := "fnExactNearestFoil", fn := fun _ => fun
  | [d1, d2] => { results := [.lit (.bool false)], args := [d1, d2] }
  | _ => none }
def FnExactNearestFoilWrongFalsely : Prop := fnExactNearestFoilRow.holds Try.pinned (OpenSpec.ofChange fnExactNearestFoilWrong)

/-- 'laws.FnExactSureAmount': WHATEVER THE INPUT: true; the input reads as it did. -/
def fnExactSureAmountSpec : ChangeSpec := { name := "fnExactSureAmount", fn := fun _ => fun
  | [d1, d2] => { results := [.lit (.bool true)], args := [d1, d2] }
  | _ => none }
def fnExactSureAmountRow : OpenClaim := { program := "ytoeppnjgpblikaa", sum := "8a717262675038abd95644d0581e46faf30743d756bf0310b86016f507b0ac90", func := "loop.example/g01263/laws.FnExactSureAmount", spec := "fnExactSureAmount", apart := false }
def FnExactSureAmountSaid : Prop := fnExactSureAmountRow.holds Try.pinned (OpenSpec.ofChange fnExactSureAmountSpec)

/-- ITS FALSE NEIGHBOUR: 'it returns false'. Refute it at one input. -/
def fnExactSureAmountWrong : ChangeSpec := { name := "fnExactSureAmount", fn := fun _ => fun
  | [d1, d2] => { results := [.lit (.bool false)], args := [d1, d2] }
  | _ => none }
def FnExactSureAmountWrongFalsely : Prop := fnExactSureAmountRow.holds Try.pinned (OpenSpec.ofChange fnExactSureAmountWrong)

/- THE SECOND FORM. 'bulk': how many values and letters a reading holds, each counted each time it is reached (what is shared counts as often as it is met; a slice's spare places count too). A statement '..UptoSaid' is the law's where the arguments, and the package variables that the reading takes, are together of bulk at most 1048576: NARROWER than '..Said'. Prove '..Said' where nothing that the law and all that it calls make is longer than what came in: it says more and counts as full. Else prove '..UptoSaid'. A law counts once. -/
mutual
def uptoBulk {H : Type} : DataW H → Nat
  | .lit (.string bytes) => bytes.length + 1
  | .lit _ => 1
  | .nil => 1
  | .ptr d => uptoBulk d + 1
  | .slice elems spare => uptoBulkAll elems + uptoBulkAll spare + 1
  | .agg parts => uptoBulkAll parts + 1
  | .iface _ d => uptoBulk d + 1
  | .map entries => uptoBulkEntries entries + 1
  | .held _ => 1
def uptoBulkAll {H : Type} : List (DataW H) → Nat
  | [] => 0
  | d :: r => uptoBulk d + uptoBulkAll r
def uptoBulkEntries {H : Type} : List (Lit × DataW H) → Nat
  | [] => 0
  | x :: r => uptoBulkEntry x + uptoBulkEntries r
def uptoBulkEntry {H : Type} : Lit × DataW H → Nat
  | (.string bytes, d) => bytes.length + uptoBulk d + 1
  | (_, d) => uptoBulk d + 1
 end
def uptoSmall : (H : Type) → List (DataW H) → Bool := fun _ ds => decide (uptoBulkAll ds ≤ 1048576)
def OpenSpec.upto (s : _root_.Go.ChangeSpec) : _root_.Go.OpenSpec := { _root_.Go.OpenSpec.ofChange s with cond := some uptoSmall }

/-- 'laws.FnExactIsInWood', WHERE WHAT IT READS IS OF BULK AT MOST 1048576: true; the input reads as it did. -/
def fnExactIsInWoodUptoRow : OpenClaim := { program := "ytoeppnjgpblikaa", sum := "8a717262675038abd95644d0581e46faf30743d756bf0310b86016f507b0ac90", func := "loop.example/g01263/laws.FnExactIsInWood", spec := "fnExactIsInWood", apart := false, narrowed := true }
def FnExactIsInWoodUptoSaid : Prop := fnExactIsInWoodUptoRow.holds Try.pinned (OpenSpec.upto fnExactIsInWoodSpec)

/-- 'laws.FnExactCountWood', WHERE WHAT IT READS IS OF BULK AT MOST 1048576: true; the input reads as it did. -/
def fnExactCountWoodUptoRow : OpenClaim := { program := "ytoeppnjgpblikaa", sum := "8a717262675038abd95644d0581e46faf30743d756bf0310b86016f507b0ac90", func := "loop.example/g01263/laws.FnExactCountWood", spec := "fnExactCountWood", apart := false, narrowed := true }
def FnExactCountWoodUptoSaid : Prop := fnExactCountWoodUptoRow.holds Try.pinned (OpenSpec.upto fnExactCountWoodSpec)

/-- 'laws.FnExactWornPlaces', WHERE WHAT IT READS IS OF BULK AT MOST 1048576: true; the input reads as it did. -/
def fnExactWornPlacesUptoRow : OpenClaim := { program := "ytoeppnjgpblikaa", sum := "8a717262675038abd95644d0581e46faf30743d756bf0310b86016f507b0ac90", func := "loop.example/g01263/laws.FnExactWornPlaces", spec := "fnExactWornPlaces", apart := false, narrowed := true }
def FnExactWornPlacesUptoSaid : Prop := fnExactWornPlacesUptoRow.holds Try.pinned (OpenSpec.upto fnExactWornPlacesSpec)

/-- 'laws.FnExactSameVerdict', WHERE WHAT IT READS IS OF BULK AT MOST 1048576: true; the input reads as it did. -/
def fnExactSameVerdictUptoRow : OpenClaim := { program := "ytoeppnjgpblikaa", sum := "8a717262675038abd95644d0581e46faf30743d756bf0310b86016f507b0ac90", func := "loop.example/g01263/laws.FnExactSameVerdict", spec := "fnExactSameVerdict", apart := false, narrowed := true }
def FnExactSameVerdictUptoSaid : Prop := fnExactSameVerdictUptoRow.holds Try.pinned (OpenSpec.upto fnExactSameVerdictSpec)

/-- 'laws.FnExactChanceWear', WHERE WHAT IT READS IS OF BULK AT MOST 1048576: true; the input reads as it did. -/
def fnExactChanceWearUptoRow : OpenClaim := { program := "ytoeppnjgpblikaa", sum := "8a717262675038abd95644d0581e46faf30743d756bf0310b86016f507b0ac90", func := "loop.example/g01263/laws.FnExactChanceWear", spec := "fnExactChanceWear", apart := false, narrowed := true }
def FnExactChanceWearUptoSaid : Prop := fnExactChanceWearUptoRow.holds Try.pinned (OpenSpec.upto fnExactChanceWearSpec)

/-- 'laws.FnExactWoodOf', WHERE WHAT IT READS IS OF BULK AT MOST 1048576: true; the input reads as it did. -/
def fnExactWoodOfUptoRow : OpenClaim := { program := "ytoeppnjgpblikaa", sum := "8a717262675038abd95644d0581e46faf30743d756bf0310b86016f507b0ac90", func := "loop.example/g01263/laws.FnExactWoodOf", spec := "fnExactWoodOf", apart := false, narrowed := true }
def FnExactWoodOfUptoSaid : Prop := fnExactWoodOfUptoRow.holds Try.pinned (OpenSpec.upto fnExactWoodOfSpec)

/-- 'laws.FnWorn', WHERE WHAT IT READS IS OF BULK AT MOST 1048576: true; the input reads as it did. -/
def fnWornUptoRow : OpenClaim := { program := "ytoeppnjgpblikaa", sum := "8a717262675038abd95644d0581e46faf30743d756bf0310b86016f507b0ac90", func := "loop.example/g01263/laws.FnWorn", spec := "fnWorn", apart := false, narrowed := true }
def FnWornUptoSaid : Prop := fnWornUptoRow.holds Try.pinned (OpenSpec.upto fnWornSpec)

/-- 'laws.FnExactCouldBecome', WHERE WHAT IT READS IS OF BULK AT MOST 1048576: true; the input reads as it did. -/
def fnExactCouldBecomeUptoRow : OpenClaim := { program := "ytoeppnjgpblikaa", sum := "8a717262675038abd95644d0581e46faf30743d756bf0310b86016f507b0ac90", func := "loop.example/g01263/laws.FnExactCouldBecome", spec := "fnExactCouldBecome", apart := false, narrowed := true }
def FnExactCouldBecomeUptoSaid : Prop := fnExactCouldBecomeUptoRow.holds Try.pinned (OpenSpec.upto fnExactCouldBecomeSpec)

/-- 'laws.FnExactWhoLies', WHERE WHAT IT READS IS OF BULK AT MOST 1048576: true; the input reads as it did. -/
def fnExactWhoLiesUptoRow : OpenClaim := { program := "ytoeppnjgpblikaa", sum := "8a717262675038abd95644d0581e46faf30743d756bf0310b86016f507b0ac90", func := "loop.example/g01263/laws.FnExactWhoLies", spec := "fnExactWhoLies", apart := false, narrowed := true }
def FnExactWhoLiesUptoSaid : Prop := fnExactWhoLiesUptoRow.holds Try.pinned (OpenSpec.upto fnExactWhoLiesSpec)

/-- 'laws.FnExactFindFoil', WHERE WHAT IT READS IS OF BULK AT MOST 1048576: true; the input reads as it did. -/
def fnExactFindFoilUptoRow : OpenClaim := { program := "ytoeppnjgpblikaa", sum := "8a717262675038abd95644d0581e46faf30743d756bf0310b86016f507b0ac90", func := "loop.example/g01263/laws.FnExactFindFoil", spec := "fnExactFindFoil", apart := false, narrowed := true }
def FnExactFindFoilUptoSaid : Prop := fnExactFindFoilUptoRow.holds Try.pinned (OpenSpec.upto fnExactFindFoilSpec)

/-- 'laws.FnExactNearestFoil', WHERE WHAT IT READS IS OF BULK AT MOST 1048576: true; the input reads as it did. -/
def fnExactNearestFoilUptoRow : OpenClaim := { program := "ytoeppnjgpblikaa", sum := "8a717262675038abd95644d0581e46faf30743d756bf0310b86016f507b0ac90", func := "loop.example/g01263/laws.FnExactNearestFoil", spec := "fnExactNearestFoil", apart := false, narrowed := true }
def FnExactNearestFoilUptoSaid : Prop := fnExactNearestFoilUptoRow.holds Try.pinned (OpenSpec.upto fnExactNearestFoilSpec)

/-- 'laws.FnExactSureAmount', WHERE WHAT IT READS IS OF BULK AT MOST 1048576: true; the input reads as it did. -/
def fnExactSureAmountUptoRow : OpenClaim := { program := "ytoeppnjgpblikaa", sum := "8a717262675038abd95644d0581e46faf30743d756bf0310b86016f507b0ac90", func := "loop.example/g01263/laws.FnExactSureAmount", spec := "fnExactSureAmount", apart := false, narrowed := true }
def FnExactSureAmountUptoSaid : Prop := fnExactSureAmountUptoRow.holds Try.pinned (OpenSpec.upto fnExactSureAmountSpec)

end Rows
end Go.Proofs.Ytoeppnjgpblikaa
