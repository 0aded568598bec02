/-
  No cell of these rows narrows 'for every input' (looked for: loops, veiled, ifaces, maps, wideKeys, modest, calm, conditions, laid).
  DERIVED. THE GIVEN ROWS OF THIS SEAT. 12 by the template 'for every input the law returns true; each argument reads behind the call as it read before'; 0 by the template 'total and deterministic' (their statements: YtlidldkelkihlaaTotals.lean).
  GIVEN WITH THE SEED: the statements are not yours to turn. If you find one false, say at which input.
  Laid BY PROGRAM, IN A SANDBOX (cutbox-rows.mjs): the forced cells as the released guide's own fill.sh prints them over the translation 5eaaed2f36a69eb0… (all of the seat's roots in one cut). By AI agents, Wed Nov 11 2026. No macro, syntax, notation, axiom, sorry.
-/
import Derived.Test.YtlidldkelkihlaaChecked
import GoSem.Claim
import GoSem.ClaimJoined
import GoSem.ClaimMapViews
import Derived.JoinedTies
import Derived.KernelRfl
namespace Go.Proofs.Ytlidldkelkihlaa
/- THE CELL 'sum', in the pinned program and in every row, IS THE sha256 OF THE DUMP (.gsa) THAT YtlidldkelkihlaaProg.lean LOADS. Nothing in Lean hashes anything: it is a label: what it is worth is what the hold of that sum in a sandbox is worth. -/
noncomputable def Try.pinned : Pinned := { name := "ytlidldkelkihlaa", sum := "5eaaed2f36a69eb059ce07221e86aec1afa9c2951e9b406e9e9a58e7fbb1b33a", checked := Try.checked }
namespace Rows
def none {H : Type} : Left H := { results := [], args := [] }

/-- 'laws.FnExactCountWood': WHATEVER THE INPUT: true; the input reads as it did. -/
def fnExactCountWoodSpec : ChangeSpec := { name := "fnExactCountWood", fn := fun _ => fun
  | [d] => { results := [.lit (.bool true)], args := [d] }
  | _ => none }
def fnExactCountWoodRow : OpenClaim := { program := "ytlidldkelkihlaa", sum := "5eaaed2f36a69eb059ce07221e86aec1afa9c2951e9b406e9e9a58e7fbb1b33a", func := "loop.example/g01263/laws.FnExactCountWood", spec := "fnExactCountWood", apart := false }
def FnExactCountWoodSaid : Prop := fnExactCountWoodRow.holds Try.pinned (OpenSpec.ofChange fnExactCountWoodSpec)

/-- ITS FALSE NEIGHBOUR: 'it returns false'. Refute it at one input. -/
def fnExactCountWoodWrong : ChangeSpec := { name := "fnExactCountWood", fn := fun _ => fun
  | [d] => { results := [.lit (.bool false)], args := [d] }
  | _ => none }
def FnExactCountWoodWrongFalsely : Prop := fnExactCountWoodRow.holds Try.pinned (OpenSpec.ofChange fnExactCountWoodWrong)

/-- 'laws.FnExactWoodOf': WHATEVER THE INPUT: true; the input reads as it did. -/
def fnExactWoodOfSpec : ChangeSpec := { name := "fnExactWoodOf", fn := fun _ => fun
  | [d] => { results := [.lit (.bool true)], args := [d] }
  | _ => none }
def fnExactWoodOfRow : OpenClaim := { program := "ytlidldkelkihlaa", sum := "5eaaed2f36a69eb059ce07221e86aec1afa9c2951e9b406e9e9a58e7fbb1b33a", func := "loop.example/g01263/laws.FnExactWoodOf", spec := "fnExactWoodOf", apart := false }
def FnExactWoodOfSaid : Prop := fnExactWoodOfRow.holds Try.pinned (OpenSpec.ofChange fnExactWoodOfSpec)

/-- ITS FALSE NEIGHBOUR: 'it returns false'. Refute it at one input. -/
def fnExactWoodOfWrong : ChangeSpec := { name := "fnExactWoodOf", fn := fun _ => fun
  | [d] => { results := [.lit (.bool false)], args := [d] }
  | _ => none }
def FnExactWoodOfWrongFalsely : Prop := fnExactWoodOfRow.holds Try.pinned (OpenSpec.ofChange fnExactWoodOfWrong)

/-- 'laws.FnWorn': WHATEVER THE INPUT: true; the input reads as it did. -/
def fnWornSpec : ChangeSpec := { name := "fnWorn", fn := fun _ => fun
  | [d1, d2] => { results := [.lit (.bool true)], args := [d1, d2] }
  | _ => none }
def fnWornRow : OpenClaim := { program := "ytlidldkelkihlaa", sum := "5eaaed2f36a69eb059ce07221e86aec1afa9c2951e9b406e9e9a58e7fbb1b33a", func := "loop.example/g01263/laws.FnWorn", spec := "fnWorn", apart := false }
def FnWornSaid : Prop := fnWornRow.holds Try.pinned (OpenSpec.ofChange fnWornSpec)

/-- ITS FALSE NEIGHBOUR: 'it returns false'. Refute it at one input. -/
def fnWornWrong : ChangeSpec := { name := "fnWorn", fn := fun _ => fun
  | [d1, d2] => { results := [.lit (.bool false)], args := [d1, d2] }
  | _ => none }
def FnWornWrongFalsely : Prop := fnWornRow.holds Try.pinned (OpenSpec.ofChange fnWornWrong)

/-- 'laws.FnExactCouldBecome': WHATEVER THE INPUT: true; the input reads as it did. -/
def fnExactCouldBecomeSpec : ChangeSpec := { name := "fnExactCouldBecome", fn := fun _ => fun
  | [d1, d2] => { results := [.lit (.bool true)], args := [d1, d2] }
  | _ => none }
def fnExactCouldBecomeRow : OpenClaim := { program := "ytlidldkelkihlaa", sum := "5eaaed2f36a69eb059ce07221e86aec1afa9c2951e9b406e9e9a58e7fbb1b33a", func := "loop.example/g01263/laws.FnExactCouldBecome", spec := "fnExactCouldBecome", apart := false }
def FnExactCouldBecomeSaid : Prop := fnExactCouldBecomeRow.holds Try.pinned (OpenSpec.ofChange fnExactCouldBecomeSpec)

/-- ITS FALSE NEIGHBOUR: 'it returns false'. Refute it at one input. -/
def fnExactCouldBecomeWrong : ChangeSpec := { name := "fnExactCouldBecome", fn := fun _ => fun
  | [d1, d2] => { results := [.lit (.bool false)], args := [d1, d2] }
  | _ => none }
def FnExactCouldBecomeWrongFalsely : Prop := fnExactCouldBecomeRow.holds Try.pinned (OpenSpec.ofChange fnExactCouldBecomeWrong)

/-- 'laws.FnExactWhoLies': WHATEVER THE INPUT: true; the input reads as it did. -/
def fnExactWhoLiesSpec : ChangeSpec := { name := "fnExactWhoLies", fn := fun _ => fun
  | [d1, d2] => { results := [.lit (.bool true)], args := [d1, d2] }
  | _ => none }
def fnExactWhoLiesRow : OpenClaim := { program := "ytlidldkelkihlaa", sum := "5eaaed2f36a69eb059ce07221e86aec1afa9c2951e9b406e9e9a58e7fbb1b33a", func := "loop.example/g01263/laws.FnExactWhoLies", spec := "fnExactWhoLies", apart := false }
def FnExactWhoLiesSaid : Prop := fnExactWhoLiesRow.holds Try.pinned (OpenSpec.ofChange fnExactWhoLiesSpec)

/-- ITS FALSE NEIGHBOUR: 'it returns false'. Refute it at one input. -/
def fnExactWhoLiesWrong : ChangeSpec := { name := "fnExactWhoLies", fn := fun _ => fun
  | [d1, d2] => { results := [.lit (.bool false)], args := [d1, d2] }
  | _ => none }
def FnExactWhoLiesWrongFalsely : Prop := fnExactWhoLiesRow.holds Try.pinned (OpenSpec.ofChange fnExactWhoLiesWrong)

/-- 'laws.FnExactFindFoil': WHATEVER THE INPUT: true; the input reads as it did. -/
def fnExactFindFoilSpec : ChangeSpec := { name := "fnExactFindFoil", fn := fun _ => fun
  | [d1, d2, d3] => { results := [.lit (.bool true)], args := [d1, d2, d3] }
  | _ => none }
def fnExactFindFoilRow : OpenClaim := { program := "ytlidldkelkihlaa", sum := "5eaaed2f36a69eb059ce07221e86aec1afa9c2951e9b406e9e9a58e7fbb1b33a", func := "loop.example/g01263/laws.FnExactFindFoil", spec := "fnExactFindFoil", apart := false }
def FnExactFindFoilSaid : Prop := fnExactFindFoilRow.holds Try.pinned (OpenSpec.ofChange fnExactFindFoilSpec)

/-- ITS FALSE NEIGHBOUR: 'it returns false'. Refute it at one input. -/
def fnExactFindFoilWrong : ChangeSpec := { name := "fnExactFindFoil", fn := fun _ => fun
  | [d1, d2, d3] => { results := [.lit (.bool false)], args := [d1, d2, d3] }
  | _ => none }
def FnExactFindFoilWrongFalsely : Prop := fnExactFindFoilRow.holds Try.pinned (OpenSpec.ofChange fnExactFindFoilWrong)

/-- 'laws.FnExactNearestFoil': WHATEVER THE INPUT: true; the input reads as it did. -/
def fnExactNearestFoilSpec : ChangeSpec := { name := "fnExactNearestFoil", fn := fun _ => fun
  | [d1, d2] => { results := [.lit (.bool true)], args := [d1, d2] }
  | _ => none }
def fnExactNearestFoilRow : OpenClaim := { program := "ytlidldkelkihlaa", sum := "5eaaed2f36a69eb059ce07221e86aec1afa9c2951e9b406e9e9a58e7fbb1b33a", func := "loop.example/g01263/laws.FnExactNearestFoil", spec := "fnExactNearestFoil", apart := false }
def FnExactNearestFoilSaid : Prop := fnExactNearestFoilRow.holds Try.pinned (OpenSpec.ofChange fnExactNearestFoilSpec)

/-- ITS FALSE NEIGHBOUR: 'it returns false'. Refute it at one input. -/
def fnExactNearestFoilWrong : ChangeSpec := { name := "fnExactNearestFoil", fn := fun _ => fun
  | [d1, d2] => { results := [.lit (.bool false)], args := [d1, d2] }
  | _ => none }
def FnExactNearestFoilWrongFalsely : Prop := fnExactNearestFoilRow.holds Try.pinned (OpenSpec.ofChange fnExactNearestFoilWrong)

/-- 'laws.FnExactSureAmount': WHATEVER THE INPUT: true; the input reads as it did. -/
def fnExactSureAmountSpec : ChangeSpec := { name := "fnExactSureAmount", fn := fun _ => fun
  | [d1, d2] => { results := [.lit (.bool true)], args := [d1, d2] }
  | _ => none }
def fnExactSureAmountRow : OpenClaim := { program := "ytlidldkelkihlaa", sum := "5eaaed2f36a69eb059ce07221e86aec1afa9c2951e9b406e9e9a58e7fbb1b33a", func := "loop.example/g01263/laws.FnExactSureAmount", spec := "fnExactSureAmount", apart := false }
def FnExactSureAmountSaid : Prop := fnExactSureAmountRow.holds Try.pinned (OpenSpec.ofChange fnExactSureAmountSpec)

/-- ITS FALSE NEIGHBOUR: 'it returns false'. Refute it at one input. -/
def fnExactSureAmountWrong : ChangeSpec := { name := "fnExactSureAmount", fn := fun _ => fun
  | [d1, d2] => { results := [.lit (.bool false)], args := [d1, d2] }
  | _ => none }
def FnExactSureAmountWrongFalsely : Prop := fnExactSureAmountRow.holds Try.pinned (OpenSpec.ofChange fnExactSureAmountWrong)

/-- 'laws.FnExactInspect': WHATEVER THE INPUT: true; the input reads as it did. -/
def fnExactInspectSpec : ChangeSpec := { name := "fnExactInspect", fn := fun _ => fun
  | [d1, d2, d3] => { results := [.lit (.bool true)], args := [d1, d2, d3] }
  | _ => none }
def fnExactInspectRow : OpenClaim := { program := "ytlidldkelkihlaa", sum := "5eaaed2f36a69eb059ce07221e86aec1afa9c2951e9b406e9e9a58e7fbb1b33a", func := "loop.example/g01263/laws.FnExactInspect", spec := "fnExactInspect", apart := false }
def FnExactInspectSaid : Prop := fnExactInspectRow.holds Try.pinned (OpenSpec.ofChange fnExactInspectSpec)

/-- ITS FALSE NEIGHBOUR: 'it returns false'. Refute it at one input. -/
def fnExactInspectWrong : ChangeSpec := { name := "fnExactInspect", fn := fun _ => fun
  | [d1, d2, d3] => { results := [.lit (.bool false)], args := [d1, d2, d3] }
  | _ => none }
def FnExactInspectWrongFalsely : Prop := fnExactInspectRow.holds Try.pinned (OpenSpec.ofChange fnExactInspectWrong)

/-- 'laws.FnExactGainOf': WHATEVER THE INPUT: true; the input reads as it did. -/
def fnExactGainOfSpec : ChangeSpec := { name := "fnExactGainOf", fn := fun _ => fun
  | [d1, d2] => { results := [.lit (.bool true)], args := [d1, d2] }
  | _ => none }
def fnExactGainOfRow : OpenClaim := { program := "ytlidldkelkihlaa", sum := "5eaaed2f36a69eb059ce07221e86aec1afa9c2951e9b406e9e9a58e7fbb1b33a", func := "loop.example/g01263/laws.FnExactGainOf", spec := "fnExactGainOf", inPlace := ["slices.overlaps[loop.example/g01263/impl.Notch]"], apart := false }
def FnExactGainOfSaid : Prop := fnExactGainOfRow.holds Try.pinned (OpenSpec.ofChange fnExactGainOfSpec)

/-- ITS FALSE NEIGHBOUR: 'it returns false'. Refute it at one input. -/
def fnExactGainOfWrong : ChangeSpec := { name := "fnExactGainOf", fn := fun _ => fun
  | [d1, d2] => { results := [.lit (.bool false)], args := [d1, d2] }
  | _ => none }
def FnExactGainOfWrongFalsely : Prop := fnExactGainOfRow.holds Try.pinned (OpenSpec.ofChange fnExactGainOfWrong)

/-- 'laws.FnExactTamperHalf': WHATEVER THE INPUT: true; the input reads as it did. -/
def fnExactTamperHalfSpec : ChangeSpec := { name := "fnExactTamperHalf", fn := fun _ => fun
  | [d1, d2] => { results := [.lit (.bool true)], args := [d1, d2] }
  | _ => none }
def fnExactTamperHalfRow : OpenClaim := { program := "ytlidldkelkihlaa", sum := "5eaaed2f36a69eb059ce07221e86aec1afa9c2951e9b406e9e9a58e7fbb1b33a", func := "loop.example/g01263/laws.FnExactTamperHalf", spec := "fnExactTamperHalf", inPlace := ["slices.overlaps[loop.example/g01263/impl.Notch]"], apart := false }
def FnExactTamperHalfSaid : Prop := fnExactTamperHalfRow.holds Try.pinned (OpenSpec.ofChange fnExactTamperHalfSpec)

/-- ITS FALSE NEIGHBOUR: 'it returns false'. Refute it at one input. -/
def fnExactTamperHalfWrong : ChangeSpec := { name := "fnExactTamperHalf", fn := fun _ => fun
  | [d1, d2] => { results := [.lit (.bool false)], args := [d1, d2] }
  | _ => none }
def FnExactTamperHalfWrongFalsely : Prop := fnExactTamperHalfRow.holds Try.pinned (OpenSpec.ofChange fnExactTamperHalfWrong)

/-- 'laws.FnLies': WHATEVER THE INPUT: true; the input reads as it did. -/
def fnLiesSpec : ChangeSpec := { name := "fnLies", fn := fun _ => fun
  | [d1, d2] => { results := [.lit (.bool true)], args := [d1, d2] }
  | _ => none }
def fnLiesRow : OpenClaim := { program := "ytlidldkelkihlaa", sum := "5eaaed2f36a69eb059ce07221e86aec1afa9c2951e9b406e9e9a58e7fbb1b33a", func := "loop.example/g01263/laws.FnLies", spec := "fnLies", apart := false }
def FnLiesSaid : Prop := fnLiesRow.holds Try.pinned (OpenSpec.ofChange fnLiesSpec)

/-- ITS FALSE NEIGHBOUR: 'it returns false'. Refute it at one input. -/
def fnLiesWrong : ChangeSpec := { name := "fnLies", fn := fun _ => fun
  | [d1, d2] => { results := [.lit (.bool false)], args := [d1, d2] }
  | _ => none }
def FnLiesWrongFalsely : Prop := fnLiesRow.holds Try.pinned (OpenSpec.ofChange fnLiesWrong)

/- THE SECOND FORM. 'bulk': how many values and letters a reading holds, each counted each time it is reached (what is shared counts as often as it is met; a slice's spare places count too). A statement '..UptoSaid' is the law's where the arguments, and the package variables that the reading takes, are together of bulk at most 1048576: NARROWER than '..Said'. Prove '..Said' where nothing that the law and all that it calls make is longer than what came in: it says more and counts as full. Else prove '..UptoSaid'. A law counts once. -/
mutual
def uptoBulk {H : Type} : DataW H → Nat
  | .lit (.string bytes) => bytes.length + 1
  | .lit _ => 1
  | .nil => 1
  | .ptr d => uptoBulk d + 1
  | .slice elems spare => uptoBulkAll elems + uptoBulkAll spare + 1
  | .agg parts => uptoBulkAll parts + 1
  | .iface _ d => uptoBulk d + 1
  | .map entries => uptoBulkEntries entries + 1
  | .held _ => 1
def uptoBulkAll {H : Type} : List (DataW H) → Nat
  | [] => 0
  | d :: r => uptoBulk d + uptoBulkAll r
def uptoBulkEntries {H : Type} : List (Lit × DataW H) → Nat
  | [] => 0
  | x :: r => uptoBulkEntry x + uptoBulkEntries r
def uptoBulkEntry {H : Type} : Lit × DataW H → Nat
  | (.string bytes, d) => bytes.length + uptoBulk d + 1
  | (_, d) => uptoBulk d + 1
 end
def uptoSmall : (H : Type) → List (DataW H) → Bool := fun _ ds => decide (uptoBulkAll ds ≤ 1048576)
def OpenSpec.upto (s : _root_.Go.ChangeSpec) : _root_.Go.OpenSpec := { _root_.Go.OpenSpec.ofChange s with cond := some uptoSmall }

/-- 'laws.FnExactCountWood', WHERE WHAT IT READS IS OF BULK AT MOST 1048576: true; the input reads as it did. -/
def fnExactCountWoodUptoRow : OpenClaim := { program := "ytlidldkelkihlaa", sum := "5eaaed2f36a69eb059ce07221e86aec1afa9c2951e9b406e9e9a58e7fbb1b33a", func := "loop.example/g01263/laws.FnExactCountWood", spec := "fnExactCountWood", apart := false, narrowed := true }
def FnExactCountWoodUptoSaid : Prop := fnExactCountWoodUptoRow.holds Try.pinned (OpenSpec.upto fnExactCountWoodSpec)

/-- 'laws.FnExactWoodOf', WHERE WHAT IT READS IS OF BULK AT MOST 1048576: true; the input reads as it did. -/
def fnExactWoodOfUptoRow : OpenClaim := { program := "ytlidldkelkihlaa", sum := "5eaaed2f36a69eb059ce07221e86aec1afa9c2951e9b406e9e9a58e7fbb1b33a", func := "loop.example/g01263/laws.FnExactWoodOf", spec := "fnExactWoodOf", apart := false, narrowed := true }
def FnExactWoodOfUptoSaid : Prop := fnExactWoodOfUptoRow.holds Try.pinned (OpenSpec.upto fnExactWoodOfSpec)

/-- 'laws.FnWorn', WHERE WHAT IT READS IS OF BULK AT MOST 1048576: true; the input reads as it did. -/
def fnWornUptoRow : OpenClaim := { program := "ytlidldkelkihlaa", sum := "5eaaed2f36a69eb059ce07221e86aec1afa9c2951e9b406e9e9a58e7fbb1b33a", func := "loop.example/g01263/laws.FnWorn", spec := "fnWorn", apart := false, narrowed := true }
def FnWornUptoSaid : Prop := fnWornUptoRow.holds Try.pinned (OpenSpec.upto fnWornSpec)

/-- 'laws.FnExactCouldBecome', WHERE WHAT IT READS IS OF BULK AT MOST 1048576: true; the input reads as it did. -/
def fnExactCouldBecomeUptoRow : OpenClaim := { program := "ytlidldkelkihlaa", sum := "5eaaed2f36a69eb059ce07221e86aec1afa9c2951e9b406e9e9a58e7fbb1b33a", func := "loop.example/g01263/laws.FnExactCouldBecome", spec := "fnExactCouldBecome", apart := false, narrowed := true }
def FnExactCouldBecomeUptoSaid : Prop := fnExactCouldBecomeUptoRow.holds Try.pinned (OpenSpec.upto fnExactCouldBecomeSpec)

/-- 'laws.FnExactWhoLies', WHERE WHAT IT READS IS OF BULK AT MOST 1048576: true; the input reads as it did. -/
def fnExactWhoLiesUptoRow : OpenClaim := { program := "ytlidldkelkihlaa", sum := "5eaaed2f36a69eb059ce07221e86aec1afa9c2951e9b406e9e9a58e7fbb1b33a", func := "loop.example/g01263/laws.FnExactWhoLies", spec := "fnExactWhoLies", apart := false, narrowed := true }
def FnExactWhoLiesUptoSaid : Prop := fnExactWhoLiesUptoRow.holds Try.pinned (OpenSpec.upto fnExactWhoLiesSpec)

/-- 'laws.FnExactFindFoil', WHERE WHAT IT READS IS OF BULK AT MOST 1048576: true; the input reads as it did. -/
def fnExactFindFoilUptoRow : OpenClaim := { program := "ytlidldkelkihlaa", sum := "5eaaed2f36a69eb059ce07221e86aec1afa9c2951e9b406e9e9a58e7fbb1b33a", func := "loop.example/g01263/laws.FnExactFindFoil", spec := "fnExactFindFoil", apart := false, narrowed := true }
def FnExactFindFoilUptoSaid : Prop := fnExactFindFoilUptoRow.holds Try.pinned (OpenSpec.upto fnExactFindFoilSpec)

/-- 'laws.FnExactNearestFoil', WHERE WHAT IT READS IS OF BULK AT MOST 1048576: true; the input reads as it did. -/
def fnExactNearestFoilUptoRow : OpenClaim := { program := "ytlidldkelkihlaa", sum := "5eaaed2f36a69eb059ce07221e86aec1afa9c2951e9b406e9e9a58e7fbb1b33a", func := "loop.example/g01263/laws.FnExactNearestFoil", spec := "fnExactNearestFoil", apart := false, narrowed := true }
def FnExactNearestFoilUptoSaid : Prop := fnExactNearestFoilUptoRow.holds Try.pinned (OpenSpec.upto fnExactNearestFoilSpec)

/-- 'laws.FnExactSureAmount', WHERE WHAT IT READS IS OF BULK AT MOST 1048576: true; the input reads as it did. -/
def fnExactSureAmountUptoRow : OpenClaim := { program := "ytlidldkelkihlaa", sum := "5eaaed2f36a69eb059ce07221e86aec1afa9c2951e9b406e9e9a58e7fbb1b33a", func := "loop.example/g01263/laws.FnExactSureAmount", spec := "fnExactSureAmount", apart := false, narrowed := true }
def FnExactSureAmountUptoSaid : Prop := fnExactSureAmountUptoRow.holds Try.pinned (OpenSpec.upto fnExactSureAmountSpec)

/-- 'laws.FnExactInspect', WHERE WHAT IT READS IS OF BULK AT MOST 1048576: true; the input reads as it did. -/
def fnExactInspectUptoRow : OpenClaim := { program := "ytlidldkelkihlaa", sum := "5eaaed2f36a69eb059ce07221e86aec1afa9c2951e9b406e9e9a58e7fbb1b33a", func := "loop.example/g01263/laws.FnExactInspect", spec := "fnExactInspect", apart := false, narrowed := true }
def FnExactInspectUptoSaid : Prop := fnExactInspectUptoRow.holds Try.pinned (OpenSpec.upto fnExactInspectSpec)

/-- 'laws.FnExactGainOf', WHERE WHAT IT READS IS OF BULK AT MOST 1048576: true; the input reads as it did. -/
def fnExactGainOfUptoRow : OpenClaim := { program := "ytlidldkelkihlaa", sum := "5eaaed2f36a69eb059ce07221e86aec1afa9c2951e9b406e9e9a58e7fbb1b33a", func := "loop.example/g01263/laws.FnExactGainOf", spec := "fnExactGainOf", inPlace := ["slices.overlaps[loop.example/g01263/impl.Notch]"], apart := false, narrowed := true }
def FnExactGainOfUptoSaid : Prop := fnExactGainOfUptoRow.holds Try.pinned (OpenSpec.upto fnExactGainOfSpec)

/-- 'laws.FnExactTamperHalf', WHERE WHAT IT READS IS OF BULK AT MOST 1048576: true; the input reads as it did. -/
def fnExactTamperHalfUptoRow : OpenClaim := { program := "ytlidldkelkihlaa", sum := "5eaaed2f36a69eb059ce07221e86aec1afa9c2951e9b406e9e9a58e7fbb1b33a", func := "loop.example/g01263/laws.FnExactTamperHalf", spec := "fnExactTamperHalf", inPlace := ["slices.overlaps[loop.example/g01263/impl.Notch]"], apart := false, narrowed := true }
def FnExactTamperHalfUptoSaid : Prop := fnExactTamperHalfUptoRow.holds Try.pinned (OpenSpec.upto fnExactTamperHalfSpec)

/-- 'laws.FnLies', WHERE WHAT IT READS IS OF BULK AT MOST 1048576: true; the input reads as it did. -/
def fnLiesUptoRow : OpenClaim := { program := "ytlidldkelkihlaa", sum := "5eaaed2f36a69eb059ce07221e86aec1afa9c2951e9b406e9e9a58e7fbb1b33a", func := "loop.example/g01263/laws.FnLies", spec := "fnLies", apart := false, narrowed := true }
def FnLiesUptoSaid : Prop := fnLiesUptoRow.holds Try.pinned (OpenSpec.upto fnLiesSpec)

end Rows
end Go.Proofs.Ytlidldkelkihlaa
