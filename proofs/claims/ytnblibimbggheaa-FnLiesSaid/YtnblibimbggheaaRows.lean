/-
  No cell of these rows narrows 'for every input' (looked for: loops, veiled, ifaces, maps, wideKeys, modest, calm, conditions, laid).
  DERIVED. THE GIVEN ROWS OF THIS SEAT. 8 by the template 'for every input the law returns true; each argument reads behind the call as it read before'; 0 by the template 'total and deterministic' (their statements: YtnblibimbggheaaTotals.lean).
  GIVEN WITH THE SEED: the statements are not yours to turn. If you find one false, say at which input.
  Laid BY PROGRAM, IN A SANDBOX (cutbox-rows.mjs): the forced cells as the released guide's own fill.sh prints them over the translation 11b52f21217cb2d2… (all of the seat's roots in one cut). By AI agents, Wed Nov 11 2026. No macro, syntax, notation, axiom, sorry.
-/
import Derived.Test.YtnblibimbggheaaChecked
import GoSem.Claim
import GoSem.ClaimJoined
import GoSem.ClaimMapViews
import Derived.JoinedTies
import Derived.KernelRfl
namespace Go.Proofs.Ytnblibimbggheaa
/- THE CELL 'sum', in the pinned program and in every row, IS THE sha256 OF THE DUMP (.gsa) THAT YtnblibimbggheaaProg.lean LOADS. Nothing in Lean hashes anything: it is a label: what it is worth is what the hold of that sum in a sandbox is worth. -/
noncomputable def Try.pinned : Pinned := { name := "ytnblibimbggheaa", sum := "11b52f21217cb2d2cab27c80e1bc1490334a6ed29c6b96e0c9d9860570249e11", checked := Try.checked }
namespace Rows
def none {H : Type} : Left H := { results := [], args := [] }

/-- 'laws.FnExactGainOf': WHATEVER THE INPUT: true; the input reads as it did. -/
def fnExactGainOfSpec : ChangeSpec := { name := "fnExactGainOf", fn := fun _ => fun
  | [d1, d2] => { results := [.lit (.bool true)], args := [d1, d2] }
  | _ => none }
def fnExactGainOfRow : OpenClaim := { program := "ytnblibimbggheaa", sum := "11b52f21217cb2d2cab27c80e1bc1490334a6ed29c6b96e0c9d9860570249e11", func := "loop.example/g01263/laws.FnExactGainOf", spec := "fnExactGainOf", inPlace := ["slices.overlaps[loop.example/g01263/impl.Notch]"], apart := false }
def FnExactGainOfSaid : Prop := fnExactGainOfRow.holds Try.pinned (OpenSpec.ofChange fnExactGainOfSpec)

/-- ITS FALSE NEIGHBOUR: 'it returns false'. Refute it at one input. -/
def fnExactGainOfWrong : ChangeSpec := { name := "fnExactGainOf", fn := fun _ => fun
  | [d1, d2] => { results := [.lit (.bool false)], args := [d1, d2] }
  | _ => none }
def FnExactGainOfWrongFalsely : Prop := fnExactGainOfRow.holds Try.pinned (OpenSpec.ofChange fnExactGainOfWrong)

/-- 'laws.FnExactTamperHalf': WHATEVER THE INPUT: true; the input reads as it did. -/
def fnExactTamperHalfSpec : ChangeSpec := { name := "fnExactTamperHalf", fn := fun _ => fun
  | [d1, d2] => { results := [.lit (.bool true)], args := [d1, d2] }
  | _ => none }
def fnExactTamperHalfRow : OpenClaim := { program := "ytnblibimbggheaa", sum := "11b52f21217cb2d2cab27c80e1bc1490334a6ed29c6b96e0c9d9860570249e11", func := "loop.example/g01263/laws.FnExactTamperHalf", spec := "fnExactTamperHalf", inPlace := ["slices.overlaps[loop.example/g01263/impl.Notch]"], apart := false }
def FnExactTamperHalfSaid : Prop := fnExactTamperHalfRow.holds Try.pinned (OpenSpec.ofChange fnExactTamperHalfSpec)

/-- ITS FALSE NEIGHBOUR: 'it returns false'. Refute it at one input. -/
def fnExactTamperHalfWrong : ChangeSpec := { name := "fnExactTamperHalf", fn := fun _ => fun
  | [d1, d2] => { results := [.lit (.bool false)], args := [d1, d2] }
  | _ => none }
def FnExactTamperHalfWrongFalsely : Prop := fnExactTamperHalfRow.holds Try.pinned (OpenSpec.ofChange fnExactTamperHalfWrong)

/-- 'laws.FnLies': WHATEVER THE INPUT: true; the input reads as it did. -/
def fnLiesSpec : ChangeSpec := { name := "fnLies", fn := fun _ => fun
  | [d1, d2] => { results := [.lit (.bool true)], args := [d1, d2] }
  | _ => none }
def fnLiesRow : OpenClaim := { program := "ytnblibimbggheaa", sum := "11b52f21217cb2d2cab27c80e1bc1490334a6ed29c6b96e0c9d9860570249e11", func := "loop.example/g01263/laws.FnLies", spec := "fnLies", apart := false }
def FnLiesSaid : Prop := fnLiesRow.holds Try.pinned (OpenSpec.ofChange fnLiesSpec)

/-- ITS FALSE NEIGHBOUR: 'it returns false'. Refute it at one input. -/
def fnLiesWrong : ChangeSpec := { name := "fnLies", fn := fun _ => fun
  | [d1, d2] => { results := [.lit (.bool false)], args := [d1, d2] }
  | _ => none }
def FnLiesWrongFalsely : Prop := fnLiesRow.holds Try.pinned (OpenSpec.ofChange fnLiesWrong)

/-- 'laws.FnExactChanceTamper': WHATEVER THE INPUT: true; the input reads as it did. -/
def fnExactChanceTamperSpec : ChangeSpec := { name := "fnExactChanceTamper", fn := fun _ => fun
  | [d1, d2] => { results := [.lit (.bool true)], args := [d1, d2] }
  | _ => none }
def fnExactChanceTamperRow : OpenClaim := { program := "ytnblibimbggheaa", sum := "11b52f21217cb2d2cab27c80e1bc1490334a6ed29c6b96e0c9d9860570249e11", func := "loop.example/g01263/laws.FnExactChanceTamper", spec := "fnExactChanceTamper", inPlace := ["slices.overlaps[loop.example/g01263/impl.Notch]"], apart := false }
def FnExactChanceTamperSaid : Prop := fnExactChanceTamperRow.holds Try.pinned (OpenSpec.ofChange fnExactChanceTamperSpec)

/-- ITS FALSE NEIGHBOUR: 'it returns false'. Refute it at one input. -/
def fnExactChanceTamperWrong : ChangeSpec := { name := "fnExactChanceTamper", fn := fun _ => fun
  | [d1, d2] => { results := [.lit (.bool false)], args := [d1, d2] }
  | _ => none }
def FnExactChanceTamperWrongFalsely : Prop := fnExactChanceTamperRow.holds Try.pinned (OpenSpec.ofChange fnExactChanceTamperWrong)

/-- 'laws.FnExactTamperAll': WHATEVER THE INPUT: true; the input reads as it did. -/
def fnExactTamperAllSpec : ChangeSpec := { name := "fnExactTamperAll", fn := fun _ => fun
  | [d1, d2] => { results := [.lit (.bool true)], args := [d1, d2] }
  | _ => none }
def fnExactTamperAllRow : OpenClaim := { program := "ytnblibimbggheaa", sum := "11b52f21217cb2d2cab27c80e1bc1490334a6ed29c6b96e0c9d9860570249e11", func := "loop.example/g01263/laws.FnExactTamperAll", spec := "fnExactTamperAll", inPlace := ["slices.overlaps[loop.example/g01263/impl.Notch]"], apart := false }
def FnExactTamperAllSaid : Prop := fnExactTamperAllRow.holds Try.pinned (OpenSpec.ofChange fnExactTamperAllSpec)

/-- ITS FALSE NEIGHBOUR: 'it returns false'. Refute it at one input. -/
def fnExactTamperAllWrong : ChangeSpec := { name := "fnExactTamperAll", fn := fun _ => fun
  | [d1, d2] => { results := [.lit (.bool false)], args := [d1, d2] }
  | _ => none }
def FnExactTamperAllWrongFalsely : Prop := fnExactTamperAllRow.holds Try.pinned (OpenSpec.ofChange fnExactTamperAllWrong)

/-- 'laws.FnExactTampersOf': WHATEVER THE INPUT: true; the input reads as it did. -/
def fnExactTampersOfSpec : ChangeSpec := { name := "fnExactTampersOf", fn := fun _ => fun
  | [d] => { results := [.lit (.bool true)], args := [d] }
  | _ => none }
def fnExactTampersOfRow : OpenClaim := { program := "ytnblibimbggheaa", sum := "11b52f21217cb2d2cab27c80e1bc1490334a6ed29c6b96e0c9d9860570249e11", func := "loop.example/g01263/laws.FnExactTampersOf", spec := "fnExactTampersOf", inPlace := ["slices.overlaps[loop.example/g01263/impl.Notch]"], apart := false }
def FnExactTampersOfSaid : Prop := fnExactTampersOfRow.holds Try.pinned (OpenSpec.ofChange fnExactTampersOfSpec)

/-- ITS FALSE NEIGHBOUR: 'it returns false'. Refute it at one input. -/
def fnExactTampersOfWrong : ChangeSpec := { name := "fnExactTampersOf", fn := fun _ => fun
  | [d] => { results := [.lit (.bool false)], args := [d] }
  | _ => none }
def FnExactTampersOfWrongFalsely : Prop := fnExactTampersOfRow.holds Try.pinned (OpenSpec.ofChange fnExactTampersOfWrong)

/-- 'laws.FnExactLeastTampers': WHATEVER THE INPUT: true; the input reads as it did. -/
def fnExactLeastTampersSpec : ChangeSpec := { name := "fnExactLeastTampers", fn := fun _ => fun
  | [d1, d2, d3] => { results := [.lit (.bool true)], args := [d1, d2, d3] }
  | _ => none }
def fnExactLeastTampersRow : OpenClaim := { program := "ytnblibimbggheaa", sum := "11b52f21217cb2d2cab27c80e1bc1490334a6ed29c6b96e0c9d9860570249e11", func := "loop.example/g01263/laws.FnExactLeastTampers", spec := "fnExactLeastTampers", inPlace := ["slices.overlaps[loop.example/g01263/impl.Notch]"], apart := false }
def FnExactLeastTampersSaid : Prop := fnExactLeastTampersRow.holds Try.pinned (OpenSpec.ofChange fnExactLeastTampersSpec)

/-- ITS FALSE NEIGHBOUR: 'it returns false'. Refute it at one input. -/
def fnExactLeastTampersWrong : ChangeSpec := { name := "fnExactLeastTampers", fn := fun _ => fun
  | [d1, d2, d3] => { results := [.lit (.bool false)], args := [d1, d2, d3] }
  | _ => none }
def FnExactLeastTampersWrongFalsely : Prop := fnExactLeastTampersRow.holds Try.pinned (OpenSpec.ofChange fnExactLeastTampersWrong)

/-- 'laws.FnFewest': WHATEVER THE INPUT: true; the input reads as it did. -/
def fnFewestSpec : ChangeSpec := { name := "fnFewest", fn := fun _ => fun
  | [d1, d2] => { results := [.lit (.bool true)], args := [d1, d2] }
  | _ => none }
def fnFewestRow : OpenClaim := { program := "ytnblibimbggheaa", sum := "11b52f21217cb2d2cab27c80e1bc1490334a6ed29c6b96e0c9d9860570249e11", func := "loop.example/g01263/laws.FnFewest", spec := "fnFewest", inPlace := ["slices.overlaps[loop.example/g01263/impl.Notch]"], apart := false }
def FnFewestSaid : Prop := fnFewestRow.holds Try.pinned (OpenSpec.ofChange fnFewestSpec)

/-- ITS FALSE NEIGHBOUR: 'it returns false'. Refute it at one input. -/
def fnFewestWrong : ChangeSpec := { name := "fnFewest", fn := fun _ => fun
  | [d1, d2] => { results := [.lit (.bool false)], args := [d1, d2] }
  | _ => none }
def FnFewestWrongFalsely : Prop := fnFewestRow.holds Try.pinned (OpenSpec.ofChange fnFewestWrong)

/- THE SECOND FORM. 'bulk': how many values and letters a reading holds, each counted each time it is reached (what is shared counts as often as it is met; a slice's spare places count too). A statement '..UptoSaid' is the law's where the arguments, and the package variables that the reading takes, are together of bulk at most 1048576: NARROWER than '..Said'. Prove '..Said' where nothing that the law and all that it calls make is longer than what came in: it says more and counts as full. Else prove '..UptoSaid'. A law counts once. -/
mutual
def uptoBulk {H : Type} : DataW H → Nat
  | .lit (.string bytes) => bytes.length + 1
  | .lit _ => 1
  | .nil => 1
  | .ptr d => uptoBulk d + 1
  | .slice elems spare => uptoBulkAll elems + uptoBulkAll spare + 1
  | .agg parts => uptoBulkAll parts + 1
  | .iface _ d => uptoBulk d + 1
  | .map entries => uptoBulkEntries entries + 1
  | .held _ => 1
def uptoBulkAll {H : Type} : List (DataW H) → Nat
  | [] => 0
  | d :: r => uptoBulk d + uptoBulkAll r
def uptoBulkEntries {H : Type} : List (Lit × DataW H) → Nat
  | [] => 0
  | x :: r => uptoBulkEntry x + uptoBulkEntries r
def uptoBulkEntry {H : Type} : Lit × DataW H → Nat
  | (.string bytes, d) => bytes.length + uptoBulk d + 1
  | (_, d) => uptoBulk d + 1
 end
def uptoSmall : (H : Type) → List (DataW H) → Bool := fun _ ds => decide (uptoBulkAll ds ≤ 1048576)
def OpenSpec.upto (s : _root_.Go.ChangeSpec) : _root_.Go.OpenSpec := { _root_.Go.OpenSpec.ofChange s with cond := some uptoSmall }

/-- 'laws.FnExactGainOf', WHERE WHAT IT READS IS OF BULK AT MOST 1048576: true; the input reads as it did. -/
def fnExactGainOfUptoRow : OpenClaim := { program := "ytnblibimbggheaa", sum := "11b52f21217cb2d2cab27c80e1bc1490334a6ed29c6b96e0c9d9860570249e11", func := "loop.example/g01263/laws.FnExactGainOf", spec := "fnExactGainOf", inPlace := ["slices.overlaps[loop.example/g01263/impl.Notch]"], apart := false, narrowed := true }
def FnExactGainOfUptoSaid : Prop := fnExactGainOfUptoRow.holds Try.pinned (OpenSpec.upto fnExactGainOfSpec)

/-- 'laws.FnExactTamperHalf', WHERE WHAT IT READS IS OF BULK AT MOST 1048576: true; the input reads as it did. -/
def fnExactTamperHalfUptoRow : OpenClaim := { program := "ytnblibimbggheaa", sum := "11b52f21217cb2d2cab27c80e1bc1490334a6ed29c6b96e0c9d9860570249e11", func := "loop.example/g01263/laws.FnExactTamperHalf", spec := "fnExactTamperHalf", inPlace := ["slices.overlaps[loop.example/g01263/impl.Notch]"], apart := false, narrowed := true }
def FnExactTamperHalfUptoSaid : Prop := fnExactTamperHalfUptoRow.holds Try.pinned (OpenSpec.upto fnExactTamperHalfSpec)

/-- 'laws.FnLies', WHERE WHAT IT READS IS OF BULK AT MOST 1048576: true; the input reads as it did. -/
def fnLiesUptoRow : OpenClaim := { program := "ytnblibimbggheaa", sum := "11b52f21217cb2d2cab27c80e1bc1490334a6ed29c6b96e0c9d9860570249e11", func := "loop.example/g01263/laws.FnLies", spec := "fnLies", apart := false, narrowed := true }
def FnLiesUptoSaid : Prop := fnLiesUptoRow.holds Try.pinned (OpenSpec.upto fnLiesSpec)

/-- 'laws.FnExactChanceTamper', WHERE WHAT IT READS IS OF BULK AT MOST 1048576: true; the input reads as it did. -/
def fnExactChanceTamperUptoRow : OpenClaim := { program := "ytnblibimbggheaa", sum := "11b52f21217cb2d2cab27c80e1bc1490334a6ed29c6b96e0c9d9860570249e11", func := "loop.example/g01263/laws.FnExactChanceTamper", spec := "fnExactChanceTamper", inPlace := ["slices.overlaps[loop.example/g01263/impl.Notch]"], apart := false, narrowed := true }
def FnExactChanceTamperUptoSaid : Prop := fnExactChanceTamperUptoRow.holds Try.pinned (OpenSpec.upto fnExactChanceTamperSpec)

/-- 'laws.FnExactTamperAll', WHERE WHAT IT READS IS OF BULK AT MOST 1048576: true; the input reads as it did. -/
def fnExactTamperAllUptoRow : OpenClaim := { program := "ytnblibimbggheaa", sum := "11b52f21217cb2d2cab27c80e1bc1490334a6ed29c6b96e0c9d9860570249e11", func := "loop.example/g01263/laws.FnExactTamperAll", spec := "fnExactTamperAll", inPlace := ["slices.overlaps[loop.example/g01263/impl.Notch]"], apart := false, narrowed := true }
def FnExactTamperAllUptoSaid : Prop := fnExactTamperAllUptoRow.holds Try.pinned (OpenSpec.upto fnExactTamperAllSpec)

/-- 'laws.FnExactTampersOf', WHERE WHAT IT READS IS OF BULK AT MOST 1048576: true; the input reads as it did. -/
def fnExactTampersOfUptoRow : OpenClaim := { program := "ytnblibimbggheaa", sum := "11b52f21217cb2d2cab27c80e1bc1490334a6ed29c6b96e0c9d9860570249e11", func := "loop.example/g01263/laws.FnExactTampersOf", spec := "fnExactTampersOf", inPlace := ["slices.overlaps[loop.example/g01263/impl.Notch]"], apart := false, narrowed := true }
def FnExactTampersOfUptoSaid : Prop := fnExactTampersOfUptoRow.holds Try.pinned (OpenSpec.upto fnExactTampersOfSpec)

/-- 'laws.FnExactLeastTampers', WHERE WHAT IT READS IS OF BULK AT MOST 1048576: true; the input reads as it did. -/
def fnExactLeastTampersUptoRow : OpenClaim := { program := "ytnblibimbggheaa", sum := "11b52f21217cb2d2cab27c80e1bc1490334a6ed29c6b96e0c9d9860570249e11", func := "loop.example/g01263/laws.FnExactLeastTampers", spec := "fnExactLeastTampers", inPlace := ["slices.overlaps[loop.example/g01263/impl.Notch]"], apart := false, narrowed := true }
def FnExactLeastTampersUptoSaid : Prop := fnExactLeastTampersUptoRow.holds Try.pinned (OpenSpec.upto fnExactLeastTampersSpec)

/-- 'laws.FnFewest', WHERE WHAT IT READS IS OF BULK AT MOST 1048576: true; the input reads as it did. -/
def fnFewestUptoRow : OpenClaim := { program := "ytnblibimbggheaa", sum := "11b52f21217cb2d2cab27c80e1bc1490334a6ed29c6b96e0c9d9860570249e11", func := "loop.example/g01263/laws.FnFewest", spec := "fnFewest", inPlace := ["slices.overlaps[loop.example/g01263/impl.Notch]"], apart := false, narrowed := true }
def FnFewestUptoSaid : Prop := fnFewestUptoRow.holds Try.pinned (OpenSpec.upto fnFewestSpec)

end Rows
end Go.Proofs.Ytnblibimbggheaa
