/-
  No cell of these rows narrows 'for every input' (looked for: loops, veiled, ifaces, maps, wideKeys, modest, calm, conditions, laid).
  DERIVED. THE GIVEN ROWS OF THIS SEAT. 9 by the template 'for every input the law returns true; each argument reads behind the call as it read before'; 0 by the template 'total and deterministic' (their statements: YtebdajfangbdpaaTotals.lean).
  GIVEN WITH THE SEED: the statements are not yours to turn. If you find one false, say at which input.
  Laid BY PROGRAM, IN A SANDBOX (cutbox-rows.mjs): the forced cells as the released guide's own fill.sh prints them over the translation b6398da964642875… (all of the seat's roots in one cut). By AI agents, Wed Nov 11 2026. No macro, syntax, notation, axiom, sorry.
-/
import Derived.Test.YtebdajfangbdpaaChecked
import GoSem.Claim
import GoSem.ClaimJoined
import GoSem.ClaimMapViews
import Derived.JoinedTies
import Derived.KernelRfl
namespace Go.Proofs.Ytebdajfangbdpaa
/- THE CELL 'sum', in the pinned program and in every row, IS THE sha256 OF THE DUMP (.gsa) THAT YtebdajfangbdpaaProg.lean LOADS. Nothing in Lean hashes anything: it is a label: what it is worth is what the hold of that sum in a sandbox is worth. -/
noncomputable def Try.pinned : Pinned := { name := "ytebdajfangbdpaa", sum := "b6398da9646428758e2fc2b426add22678598f21bd26e2655686c520cbf3815a", checked := Try.checked }
namespace Rows
def none {H : Type} : Left H := { results := [], args := [] }

/-- 'laws.FnExactValidItems': WHATEVER THE INPUT: true; the input reads as it did. -/
def fnExactValidItemsSpec : ChangeSpec := { name := "fnExactValidItems", fn := fun _ => fun
  | [d] => { results := [.lit (.bool true)], args := [d] }
  | _ => none }
def fnExactValidItemsRow : OpenClaim := { program := "ytebdajfangbdpaa", sum := "b6398da9646428758e2fc2b426add22678598f21bd26e2655686c520cbf3815a", func := "loop.example/g01263/laws.FnExactValidItems", spec := "fnExactValidItems", apart := false }
def FnExactValidItemsSaid : Prop := fnExactValidItemsRow.holds Try.pinned (OpenSpec.ofChange fnExactValidItemsSpec)

/-- ITS FALSE NEIGHBOUR: 'it returns false'. Refute it at one input. -/
def fnExactValidItemsWrong : ChangeSpec := { name := "fnExactValidItems", fn := fun _ => fun
  | [d] => { results := [.lit (.bool false)], args := [d] }
  | _ => none }
def FnExactValidItemsWrongFalsely : Prop := fnExactValidItemsRow.holds Try.pinned (OpenSpec.ofChange fnExactValidItemsWrong)

/-- 'laws.FnExactBalanceOf': WHATEVER THE INPUT: true; the input reads as it did. -/
def fnExactBalanceOfSpec : ChangeSpec := { name := "fnExactBalanceOf", fn := fun _ => fun
  | [d] => { results := [.lit (.bool true)], args := [d] }
  | _ => none }
def fnExactBalanceOfRow : OpenClaim := { program := "ytebdajfangbdpaa", sum := "b6398da9646428758e2fc2b426add22678598f21bd26e2655686c520cbf3815a", func := "loop.example/g01263/laws.FnExactBalanceOf", spec := "fnExactBalanceOf", apart := false }
def FnExactBalanceOfSaid : Prop := fnExactBalanceOfRow.holds Try.pinned (OpenSpec.ofChange fnExactBalanceOfSpec)

/-- ITS FALSE NEIGHBOUR: 'it returns false'. Refute it at one input. -/
def fnExactBalanceOfWrong : ChangeSpec := { name := "fnExactBalanceOf", fn := fun _ => fun
  | [d] => { results := [.lit (.bool false)], args := [d] }
  | _ => none }
def FnExactBalanceOfWrongFalsely : Prop := fnExactBalanceOfRow.holds Try.pinned (OpenSpec.ofChange fnExactBalanceOfWrong)

/-- 'laws.FnExactCheckAccount': WHATEVER THE INPUT: true; the input reads as it did. -/
def fnExactCheckAccountSpec : ChangeSpec := { name := "fnExactCheckAccount", fn := fun _ => fun
  | [d] => { results := [.lit (.bool true)], args := [d] }
  | _ => none }
def fnExactCheckAccountRow : OpenClaim := { program := "ytebdajfangbdpaa", sum := "b6398da9646428758e2fc2b426add22678598f21bd26e2655686c520cbf3815a", func := "loop.example/g01263/laws.FnExactCheckAccount", spec := "fnExactCheckAccount", apart := false }
def FnExactCheckAccountSaid : Prop := fnExactCheckAccountRow.holds Try.pinned (OpenSpec.ofChange fnExactCheckAccountSpec)

/-- ITS FALSE NEIGHBOUR: 'it returns false'. Refute it at one input. -/
def fnExactCheckAccountWrong : ChangeSpec := { name := "fnExactCheckAccount", fn := fun _ => fun
  | [d] => { results := [.lit (.bool false)], args := [d] }
  | _ => none }
def FnExactCheckAccountWrongFalsely : Prop := fnExactCheckAccountRow.holds Try.pinned (OpenSpec.ofChange fnExactCheckAccountWrong)

/-- 'laws.FnExactIsQuit': WHATEVER THE INPUT: true; the input reads as it did. -/
def fnExactIsQuitSpec : ChangeSpec := { name := "fnExactIsQuit", fn := fun _ => fun
  | [d] => { results := [.lit (.bool true)], args := [d] }
  | _ => none }
def fnExactIsQuitRow : OpenClaim := { program := "ytebdajfangbdpaa", sum := "b6398da9646428758e2fc2b426add22678598f21bd26e2655686c520cbf3815a", func := "loop.example/g01263/laws.FnExactIsQuit", spec := "fnExactIsQuit", apart := false }
def FnExactIsQuitSaid : Prop := fnExactIsQuitRow.holds Try.pinned (OpenSpec.ofChange fnExactIsQuitSpec)

/-- ITS FALSE NEIGHBOUR: 'it returns false'. Refute it at one input. -/
def fnExactIsQuitWrong : ChangeSpec := { name := "fnExactIsQuit", fn := fun _ => fun
  | [d] => { results := [.lit (.bool false)], args := [d] }
  | _ => none }
def FnExactIsQuitWrongFalsely : Prop := fnExactIsQuitRow.holds Try.pinned (OpenSpec.ofChange fnExactIsQuitWrong)

/-- 'laws.FnExactMakeAccount': WHATEVER THE INPUT: true; the input reads as it did. -/
def fnExactMakeAccountSpec : ChangeSpec := { name := "fnExactMakeAccount", fn := fun _ => fun
  | [d1, d2] => { results := [.lit (.bool true)], args := [d1, d2] }
  | _ => none }
def fnExactMakeAccountRow : OpenClaim := { program := "ytebdajfangbdpaa", sum := "b6398da9646428758e2fc2b426add22678598f21bd26e2655686c520cbf3815a", func := "loop.example/g01263/laws.FnExactMakeAccount", spec := "fnExactMakeAccount", apart := false }
def FnExactMakeAccountSaid : Prop := fnExactMakeAccountRow.holds Try.pinned (OpenSpec.ofChange fnExactMakeAccountSpec)

/-- ITS FALSE NEIGHBOUR: 'it returns false'. Refute it at one input. -/
def fnExactMakeAccountWrong : ChangeSpec := { name := "fnExactMakeAccount", fn := fun _ => fun
  | [d1, d2] => { results := [.lit (.bool false)], args := [d1, d2] }
  | _ => none }
def FnExactMakeAccountWrongFalsely : Prop := fnExactMakeAccountRow.holds Try.pinned (OpenSpec.ofChange fnExactMakeAccountWrong)

/-- 'laws.FnExactAddItem': WHATEVER THE INPUT: true; the input reads as it did. -/
def fnExactAddItemSpec : ChangeSpec := { name := "fnExactAddItem", fn := fun _ => fun
  | [d1, d2] => { results := [.lit (.bool true)], args := [d1, d2] }
  | _ => none }
def fnExactAddItemRow : OpenClaim := { program := "ytebdajfangbdpaa", sum := "b6398da9646428758e2fc2b426add22678598f21bd26e2655686c520cbf3815a", func := "loop.example/g01263/laws.FnExactAddItem", spec := "fnExactAddItem", apart := false }
def FnExactAddItemSaid : Prop := fnExactAddItemRow.holds Try.pinned (OpenSpec.ofChange fnExactAddItemSpec)

/-- ITS FALSE NEIGHBOUR: 'it returns false'. Refute it at one input. -/
def fnExactAddItemWrong : ChangeSpec := { name := "fnExactAddItem", fn := fun _ => fun
  | [d1, d2] => { results := [.lit (.bool false)], args := [d1, d2] }
  | _ => none }
def FnExactAddItemWrongFalsely : Prop := fnExactAddItemRow.holds Try.pinned (OpenSpec.ofChange fnExactAddItemWrong)

/-- 'laws.FnExactNextYear': WHATEVER THE INPUT: true; the input reads as it did. -/
def fnExactNextYearSpec : ChangeSpec := { name := "fnExactNextYear", fn := fun _ => fun
  | [d1, d2] => { results := [.lit (.bool true)], args := [d1, d2] }
  | _ => none }
def fnExactNextYearRow : OpenClaim := { program := "ytebdajfangbdpaa", sum := "b6398da9646428758e2fc2b426add22678598f21bd26e2655686c520cbf3815a", func := "loop.example/g01263/laws.FnExactNextYear", spec := "fnExactNextYear", apart := false }
def FnExactNextYearSaid : Prop := fnExactNextYearRow.holds Try.pinned (OpenSpec.ofChange fnExactNextYearSpec)

/-- ITS FALSE NEIGHBOUR: 'it returns false'. Refute it at one input. -/
def fnExactNextYearWrong : ChangeSpec := { name := "fnExactNextYear", fn := fun _ => fun
  | [d1, d2] => { results := [.lit (.bool false)], args := [d1, d2] }
  | _ => none }
def FnExactNextYearWrongFalsely : Prop := fnExactNextYearRow.holds Try.pinned (OpenSpec.ofChange fnExactNextYearWrong)

/-- 'laws.FnExactFirstFault': WHATEVER THE INPUT: true; the input reads as it did. -/
def fnExactFirstFaultSpec : ChangeSpec := { name := "fnExactFirstFault", fn := fun _ => fun
  | [d] => { results := [.lit (.bool true)], args := [d] }
  | _ => none }
def fnExactFirstFaultRow : OpenClaim := { program := "ytebdajfangbdpaa", sum := "b6398da9646428758e2fc2b426add22678598f21bd26e2655686c520cbf3815a", func := "loop.example/g01263/laws.FnExactFirstFault", spec := "fnExactFirstFault", unfollowed := true, recurses := true, apart := false }
def FnExactFirstFaultSaid : Prop := fnExactFirstFaultRow.holds Try.pinned (OpenSpec.ofChange fnExactFirstFaultSpec)

/-- ITS FALSE NEIGHBOUR: 'it returns false'. Refute it at one input. -/
def fnExactFirstFaultWrong : ChangeSpec := { name := "fnExactFirstFault", fn := fun _ => fun
  | [d] => { results := [.lit (.bool false)], args := [d] }
  | _ => none }
def FnExactFirstFaultWrongFalsely : Prop := fnExactFirstFaultRow.holds Try.pinned (OpenSpec.ofChange fnExactFirstFaultWrong)

/-- 'laws.FnExactFindAccount': WHATEVER THE INPUT: true; the input reads as it did. -/
def fnExactFindAccountSpec : ChangeSpec := { name := "fnExactFindAccount", fn := fun _ => fun
  | [d1, d2] => { results := [.lit (.bool true)], args := [d1, d2] }
  | _ => none }
def fnExactFindAccountRow : OpenClaim := { program := "ytebdajfangbdpaa", sum := "b6398da9646428758e2fc2b426add22678598f21bd26e2655686c520cbf3815a", func := "loop.example/g01263/laws.FnExactFindAccount", spec := "fnExactFindAccount", unfollowed := true, recurses := true, apart := false }
def FnExactFindAccountSaid : Prop := fnExactFindAccountRow.holds Try.pinned (OpenSpec.ofChange fnExactFindAccountSpec)

/-- ITS FALSE NEIGHBOUR: 'it returns false'. Refute it at one input. -/
def fnExactFindAccountWrong : ChangeSpec := { name := "fnExactFindAccount", fn := fun _ => fun
  | [d1, d2] => { results := [.lit (.bool false)], args := [d1, d2] }
  | _ => none }
def FnExactFindAccountWrongFalsely : Prop := fnExactFindAccountRow.holds Try.pinned (OpenSpec.ofChange fnExactFindAccountWrong)

/- THE SECOND FORM. 'bulk': how many values and letters a reading holds, each counted each time it is reached (what is shared counts as often as it is met; a slice's spare places count too). A statement '..UptoSaid' is the law's where the arguments, and the package variables that the reading takes, are together of bulk at most 1048576: NARROWER than '..Said'. Prove '..Said' where nothing that the law and all that it calls make is longer than what came in: it says more and counts as full. Else prove '..UptoSaid'. A law counts once. -/
mutual
def uptoBulk {H : Type} : DataW H → Nat
  | .lit (.string bytes) => bytes.length + 1
  | .lit _ => 1
  | .nil => 1
  | .ptr d => uptoBulk d + 1
  | .slice elems spare => uptoBulkAll elems + uptoBulkAll spare + 1
  | .agg parts => uptoBulkAll parts + 1
  | .iface _ d => uptoBulk d + 1
  | .map entries => uptoBulkEntries entries + 1
  | .held _ => 1
def uptoBulkAll {H : Type} : List (DataW H) → Nat
  | [] => 0
  | d :: r => uptoBulk d + uptoBulkAll r
def uptoBulkEntries {H : Type} : List (Lit × DataW H) → Nat
  | [] => 0
  | x :: r => uptoBulkEntry x + uptoBulkEntries r
def uptoBulkEntry {H : Type} : Lit × DataW H → Nat
  | (.string bytes, d) => bytes.length + uptoBulk d + 1
  | (_, d) => uptoBulk d + 1
 end
def uptoSmall : (H : Type) → List (DataW H) → Bool := fun _ ds => decide (uptoBulkAll ds ≤ 1048576)
def OpenSpec.upto (s : _root_.Go.ChangeSpec) : _root_.Go.OpenSpec := { _root_.Go.OpenSpec.ofChange s with cond := some uptoSmall }

/-- 'laws.FnExactValidItems', WHERE WHAT IT READS IS OF BULK AT MOST 1048576: true; the input reads as it did. -/
def fnExactValidItemsUptoRow : OpenClaim := { program := "ytebdajfangbdpaa", sum := "b6398da9646428758e2fc2b426add22678598f21bd26e2655686c520cbf3815a", func := "loop.example/g01263/laws.FnExactValidItems", spec := "fnExactValidItems", apart := false, narrowed := true }
def FnExactValidItemsUptoSaid : Prop := fnExactValidItemsUptoRow.holds Try.pinned (OpenSpec.upto fnExactValidItemsSpec)

/-- 'laws.FnExactBalanceOf', WHERE WHAT IT READS IS OF BULK AT MOST 1048576: true; the input reads as it did. -/
def fnExactBalanceOfUptoRow : OpenClaim := { program := "ytebdajfangbdpaa", sum := "b6398da9646428758e2fc2b426add22678598f21bd26e2655686c520cbf3815a", func := "loop.example/g01263/laws.FnExactBalanceOf", spec := "fnExactBalanceOf", apart := false, narrowed := true }
def FnExactBalanceOfUptoSaid : Prop := fnExactBalanceOfUptoRow.holds Try.pinned (OpenSpec.upto fnExactBalanceOfSpec)

/-- 'laws.FnExactCheckAccount', WHERE WHAT IT READS IS OF BULK AT MOST 1048576: true; the input reads as it did. -/
def fnExactCheckAccountUptoRow : OpenClaim := { program := "ytebdajfangbdpaa", sum := "b6398da9646428758e2fc2b426add22678598f21bd26e2655686c520cbf3815a", func := "loop.example/g01263/laws.FnExactCheckAccount", spec := "fnExactCheckAccount", apart := false, narrowed := true }
def FnExactCheckAccountUptoSaid : Prop := fnExactCheckAccountUptoRow.holds Try.pinned (OpenSpec.upto fnExactCheckAccountSpec)

/-- 'laws.FnExactIsQuit', WHERE WHAT IT READS IS OF BULK AT MOST 1048576: true; the input reads as it did. -/
def fnExactIsQuitUptoRow : OpenClaim := { program := "ytebdajfangbdpaa", sum := "b6398da9646428758e2fc2b426add22678598f21bd26e2655686c520cbf3815a", func := "loop.example/g01263/laws.FnExactIsQuit", spec := "fnExactIsQuit", apart := false, narrowed := true }
def FnExactIsQuitUptoSaid : Prop := fnExactIsQuitUptoRow.holds Try.pinned (OpenSpec.upto fnExactIsQuitSpec)

/-- 'laws.FnExactMakeAccount', WHERE WHAT IT READS IS OF BULK AT MOST 1048576: true; the input reads as it did. -/
def fnExactMakeAccountUptoRow : OpenClaim := { program := "ytebdajfangbdpaa", sum := "b6398da9646428758e2fc2b426add22678598f21bd26e2655686c520cbf3815a", func := "loop.example/g01263/laws.FnExactMakeAccount", spec := "fnExactMakeAccount", apart := false, narrowed := true }
def FnExactMakeAccountUptoSaid : Prop := fnExactMakeAccountUptoRow.holds Try.pinned (OpenSpec.upto fnExactMakeAccountSpec)

/-- 'laws.FnExactAddItem', WHERE WHAT IT READS IS OF BULK AT MOST 1048576: true; the input reads as it did. -/
def fnExactAddItemUptoRow : OpenClaim := { program := "ytebdajfangbdpaa", sum := "b6398da9646428758e2fc2b426add22678598f21bd26e2655686c520cbf3815a", func := "loop.example/g01263/laws.FnExactAddItem", spec := "fnExactAddItem", apart := false, narrowed := true }
def FnExactAddItemUptoSaid : Prop := fnExactAddItemUptoRow.holds Try.pinned (OpenSpec.upto fnExactAddItemSpec)

/-- 'laws.FnExactNextYear', WHERE WHAT IT READS IS OF BULK AT MOST 1048576: true; the input reads as it did. -/
def fnExactNextYearUptoRow : OpenClaim := { program := "ytebdajfangbdpaa", sum := "b6398da9646428758e2fc2b426add22678598f21bd26e2655686c520cbf3815a", func := "loop.example/g01263/laws.FnExactNextYear", spec := "fnExactNextYear", apart := false, narrowed := true }
def FnExactNextYearUptoSaid : Prop := fnExactNextYearUptoRow.holds Try.pinned (OpenSpec.upto fnExactNextYearSpec)

/-- 'laws.FnExactFirstFault', WHERE WHAT IT READS IS OF BULK AT MOST 1048576: true; the input reads as it did. -/
def fnExactFirstFaultUptoRow : OpenClaim := { program := "ytebdajfangbdpaa", sum := "b6398da9646428758e2fc2b426add22678598f21bd26e2655686c520cbf3815a", func := "loop.example/g01263/laws.FnExactFirstFault", spec := "fnExactFirstFault", unfollowed := true, recurses := true, apart := false, narrowed := true }
def FnExactFirstFaultUptoSaid : Prop := fnExactFirstFaultUptoRow.holds Try.pinned (OpenSpec.upto fnExactFirstFaultSpec)

/-- 'laws.FnExactFindAccount', WHERE WHAT IT READS IS OF BULK AT MOST 1048576: true; the input reads as it did. -/
def fnExactFindAccountUptoRow : OpenClaim := { program := "ytebdajfangbdpaa", sum := "b6398da9646428758e2fc2b426add22678598f21bd26e2655686c520cbf3815a", func := "loop.example/g01263/laws.FnExactFindAccount", spec := "fnExactFindAccount", unfollowed := true, recurses := true, apart := false, narrowed := true }
def FnExactFindAccountUptoSaid : Prop := fnExactFindAccountUptoRow.holds Try.pinned (OpenSpec.upto fnExactFindAccountSpec)

end Rows
end Go.Proofs.Ytebdajfangbdpaa
