/-
  No cell of these rows narrows 'for every input' (looked for: loops, veiled, ifaces, maps, wideKeys, modest, calm, conditions, laid).
  DERIVED. THE GIVEN ROWS OF THIS SEAT. 12 by the template 'for every input the law returns true; each argument reads behind the call as it read before'; 0 by the template 'total and deterministic' (their statements: YtdkilcphdkmiiaaTotals.lean).
  GIVEN WITH THE SEED: the statements are not yours to turn. If you find one false, say at which input.
  Laid BY PROGRAM, IN A SANDBOX (cutbox-rows.mjs): the forced cells as the released guide's own fill.sh prints them over the translation dbf9a2ef7d0085e0… (all of the seat's roots in one cut). By AI agents, Wed Nov 11 2026. No macro, syntax, notation, axiom, sorry.
-/
import Derived.Test.YtdkilcphdkmiiaaChecked
import GoSem.Claim
import GoSem.ClaimJoined
import GoSem.ClaimMapViews
import Derived.JoinedTies
import Derived.KernelRfl
namespace Go.Proofs.Ytdkilcphdkmiiaa
/- THE CELL 'sum', in the pinned program and in every row, IS THE sha256 OF THE DUMP (.gsa) THAT YtdkilcphdkmiiaaProg.lean LOADS. Nothing in Lean hashes anything: it is a label: what it is worth is what the hold of that sum in a sandbox is worth. -/
noncomputable def Try.pinned : Pinned := { name := "ytdkilcphdkmiiaa", sum := "dbf9a2ef7d0085e07af3dd0ac09f6d14b1e4ed6764b0c8369feb70cafc812f25", checked := Try.checked }
namespace Rows
def none {H : Type} : Left H := { results := [], args := [] }

/-- 'laws.FnExactValidBoard': WHATEVER THE INPUT: true; the input reads as it did. -/
def fnExactValidBoardSpec : ChangeSpec := { name := "fnExactValidBoard", fn := fun _ => fun
  | [d] => { results := [.lit (.bool true)], args := [d] }
  | _ => none }
def fnExactValidBoardRow : OpenClaim := { program := "ytdkilcphdkmiiaa", sum := "dbf9a2ef7d0085e07af3dd0ac09f6d14b1e4ed6764b0c8369feb70cafc812f25", func := "loop.example/g01263/laws.FnExactValidBoard", spec := "fnExactValidBoard", apart := false }
def FnExactValidBoardSaid : Prop := fnExactValidBoardRow.holds Try.pinned (OpenSpec.ofChange fnExactValidBoardSpec)

/-- ITS FALSE NEIGHBOUR: 'it returns false'. Refute it at one input. -/
def fnExactValidBoardWrong : ChangeSpec := { name := "fnExactValidBoard", fn := fun _ => fun
  | [d] => { results := [.lit (.bool false)], args := [d] }
  | _ => none }
def FnExactValidBoardWrongFalsely : Prop := fnExactValidBoardRow.holds Try.pinned (OpenSpec.ofChange fnExactValidBoardWrong)

/-- 'laws.FnExactCountersOn': WHATEVER THE INPUT: true; the input reads as it did. -/
def fnExactCountersOnSpec : ChangeSpec := { name := "fnExactCountersOn", fn := fun _ => fun
  | [d] => { results := [.lit (.bool true)], args := [d] }
  | _ => none }
def fnExactCountersOnRow : OpenClaim := { program := "ytdkilcphdkmiiaa", sum := "dbf9a2ef7d0085e07af3dd0ac09f6d14b1e4ed6764b0c8369feb70cafc812f25", func := "loop.example/g01263/laws.FnExactCountersOn", spec := "fnExactCountersOn", apart := false }
def FnExactCountersOnSaid : Prop := fnExactCountersOnRow.holds Try.pinned (OpenSpec.ofChange fnExactCountersOnSpec)

/-- ITS FALSE NEIGHBOUR: 'it returns false'. Refute it at one input. -/
def fnExactCountersOnWrong : ChangeSpec := { name := "fnExactCountersOn", fn := fun _ => fun
  | [d] => { results := [.lit (.bool false)], args := [d] }
  | _ => none }
def FnExactCountersOnWrongFalsely : Prop := fnExactCountersOnRow.holds Try.pinned (OpenSpec.ofChange fnExactCountersOnWrong)

/-- 'laws.FnExactBoardFor': WHATEVER THE INPUT: true; the input reads as it did. -/
def fnExactBoardForSpec : ChangeSpec := { name := "fnExactBoardFor", fn := fun _ => fun
  | [d] => { results := [.lit (.bool true)], args := [d] }
  | _ => none }
def fnExactBoardForRow : OpenClaim := { program := "ytdkilcphdkmiiaa", sum := "dbf9a2ef7d0085e07af3dd0ac09f6d14b1e4ed6764b0c8369feb70cafc812f25", func := "loop.example/g01263/laws.FnExactBoardFor", spec := "fnExactBoardFor", apart := false }
def FnExactBoardForSaid : Prop := fnExactBoardForRow.holds Try.pinned (OpenSpec.ofChange fnExactBoardForSpec)

/-- ITS FALSE NEIGHBOUR: 'it returns false'. Refute it at one input. -/
def fnExactBoardForWrong : ChangeSpec := { name := "fnExactBoardFor", fn := fun _ => fun
  | [d] => { results := [.lit (.bool false)], args := [d] }
  | _ => none }
def FnExactBoardForWrongFalsely : Prop := fnExactBoardForRow.holds Try.pinned (OpenSpec.ofChange fnExactBoardForWrong)

/-- 'laws.FnExactAmountOnBoard': WHATEVER THE INPUT: true; the input reads as it did. -/
def fnExactAmountOnBoardSpec : ChangeSpec := { name := "fnExactAmountOnBoard", fn := fun _ => fun
  | [d] => { results := [.lit (.bool true)], args := [d] }
  | _ => none }
def fnExactAmountOnBoardRow : OpenClaim := { program := "ytdkilcphdkmiiaa", sum := "dbf9a2ef7d0085e07af3dd0ac09f6d14b1e4ed6764b0c8369feb70cafc812f25", func := "loop.example/g01263/laws.FnExactAmountOnBoard", spec := "fnExactAmountOnBoard", apart := false }
def FnExactAmountOnBoardSaid : Prop := fnExactAmountOnBoardRow.holds Try.pinned (OpenSpec.ofChange fnExactAmountOnBoardSpec)

/-- ITS FALSE NEIGHBOUR: 'it returns false'. Refute it at one input. -/
def fnExactAmountOnBoardWrong : ChangeSpec := { name := "fnExactAmountOnBoard", fn := fun _ => fun
  | [d] => { results := [.lit (.bool false)], args := [d] }
  | _ => none }
def FnExactAmountOnBoardWrongFalsely : Prop := fnExactAmountOnBoardRow.holds Try.pinned (OpenSpec.ofChange fnExactAmountOnBoardWrong)

/-- 'laws.FnBoards': WHATEVER THE INPUT: true; the input reads as it did. -/
def fnBoardsSpec : ChangeSpec := { name := "fnBoards", fn := fun _ => fun
  | [d1, d2] => { results := [.lit (.bool true)], args := [d1, d2] }
  | _ => none }
def fnBoardsRow : OpenClaim := { program := "ytdkilcphdkmiiaa", sum := "dbf9a2ef7d0085e07af3dd0ac09f6d14b1e4ed6764b0c8369feb70cafc812f25", func := "loop.example/g01263/laws.FnBoards", spec := "fnBoards", apart := false }
def FnBoardsSaid : Prop := fnBoardsRow.holds Try.pinned (OpenSpec.ofChange fnBoardsSpec)

/-- ITS FALSE NEIGHBOUR: 'it returns false'. Refute it at one input. -/
def fnBoardsWrong : ChangeSpec := { name := "fnBoards", fn := fun _ => fun
  | [d1, d2] => { results := [.lit (.bool false)], args := [d1, d2] }
  | _ => none }
def FnBoardsWrongFalsely : Prop := fnBoardsRow.holds Try.pinned (OpenSpec.ofChange fnBoardsWrong)

/-- 'laws.FnExactJoinBoards': WHATEVER THE INPUT: true; the input reads as it did. -/
def fnExactJoinBoardsSpec : ChangeSpec := { name := "fnExactJoinBoards", fn := fun _ => fun
  | [d1, d2] => { results := [.lit (.bool true)], args := [d1, d2] }
  | _ => none }
def fnExactJoinBoardsRow : OpenClaim := { program := "ytdkilcphdkmiiaa", sum := "dbf9a2ef7d0085e07af3dd0ac09f6d14b1e4ed6764b0c8369feb70cafc812f25", func := "loop.example/g01263/laws.FnExactJoinBoards", spec := "fnExactJoinBoards", apart := false }
def FnExactJoinBoardsSaid : Prop := fnExactJoinBoardsRow.holds Try.pinned (OpenSpec.ofChange fnExactJoinBoardsSpec)

/-- ITS FALSE NEIGHBOUR: 'it returns false'. Refute it at one input. -/
def fnExactJoinBoardsWrong : ChangeSpec := { name := "fnExactJoinBoards", fn := fun _ => fun
  | [d1, d2] => { results := [.lit (.bool false)], args := [d1, d2] }
  | _ => none }
def FnExactJoinBoardsWrongFalsely : Prop := fnExactJoinBoardsRow.holds Try.pinned (OpenSpec.ofChange fnExactJoinBoardsWrong)

/-- 'laws.FnExactPutCounters': WHATEVER THE INPUT: true; the input reads as it did. -/
def fnExactPutCountersSpec : ChangeSpec := { name := "fnExactPutCounters", fn := fun _ => fun
  | [d1, d2, d3] => { results := [.lit (.bool true)], args := [d1, d2, d3] }
  | _ => none }
def fnExactPutCountersRow : OpenClaim := { program := "ytdkilcphdkmiiaa", sum := "dbf9a2ef7d0085e07af3dd0ac09f6d14b1e4ed6764b0c8369feb70cafc812f25", func := "loop.example/g01263/laws.FnExactPutCounters", spec := "fnExactPutCounters", apart := false }
def FnExactPutCountersSaid : Prop := fnExactPutCountersRow.holds Try.pinned (OpenSpec.ofChange fnExactPutCountersSpec)

/-- ITS FALSE NEIGHBOUR: 'it returns false'. Refute it at one input. -/
def fnExactPutCountersWrong : ChangeSpec := { name := "fnExactPutCounters", fn := fun _ => fun
  | [d1, d2, d3] => { results := [.lit (.bool false)], args := [d1, d2, d3] }
  | _ => none }
def FnExactPutCountersWrongFalsely : Prop := fnExactPutCountersRow.holds Try.pinned (OpenSpec.ofChange fnExactPutCountersWrong)

/-- 'laws.FnExactTidyBoard': WHATEVER THE INPUT: true; the input reads as it did. -/
def fnExactTidyBoardSpec : ChangeSpec := { name := "fnExactTidyBoard", fn := fun _ => fun
  | [d] => { results := [.lit (.bool true)], args := [d] }
  | _ => none }
def fnExactTidyBoardRow : OpenClaim := { program := "ytdkilcphdkmiiaa", sum := "dbf9a2ef7d0085e07af3dd0ac09f6d14b1e4ed6764b0c8369feb70cafc812f25", func := "loop.example/g01263/laws.FnExactTidyBoard", spec := "fnExactTidyBoard", apart := false }
def FnExactTidyBoardSaid : Prop := fnExactTidyBoardRow.holds Try.pinned (OpenSpec.ofChange fnExactTidyBoardSpec)

/-- ITS FALSE NEIGHBOUR: 'it returns false'. Refute it at one input. -/
def fnExactTidyBoardWrong : ChangeSpec := { name := "fnExactTidyBoard", fn := fun _ => fun
  | [d] => { results := [.lit (.bool false)], args := [d] }
  | _ => none }
def FnExactTidyBoardWrongFalsely : Prop := fnExactTidyBoardRow.holds Try.pinned (OpenSpec.ofChange fnExactTidyBoardWrong)

/-- 'laws.FnExactBorrowDown': WHATEVER THE INPUT: true; the input reads as it did. -/
def fnExactBorrowDownSpec : ChangeSpec := { name := "fnExactBorrowDown", fn := fun _ => fun
  | [d1, d2] => { results := [.lit (.bool true)], args := [d1, d2] }
  | _ => none }
def fnExactBorrowDownRow : OpenClaim := { program := "ytdkilcphdkmiiaa", sum := "dbf9a2ef7d0085e07af3dd0ac09f6d14b1e4ed6764b0c8369feb70cafc812f25", func := "loop.example/g01263/laws.FnExactBorrowDown", spec := "fnExactBorrowDown", apart := false }
def FnExactBorrowDownSaid : Prop := fnExactBorrowDownRow.holds Try.pinned (OpenSpec.ofChange fnExactBorrowDownSpec)

/-- ITS FALSE NEIGHBOUR: 'it returns false'. Refute it at one input. -/
def fnExactBorrowDownWrong : ChangeSpec := { name := "fnExactBorrowDown", fn := fun _ => fun
  | [d1, d2] => { results := [.lit (.bool false)], args := [d1, d2] }
  | _ => none }
def FnExactBorrowDownWrongFalsely : Prop := fnExactBorrowDownRow.holds Try.pinned (OpenSpec.ofChange fnExactBorrowDownWrong)

/-- 'laws.FnExactCarryUp': WHATEVER THE INPUT: true; the input reads as it did. -/
def fnExactCarryUpSpec : ChangeSpec := { name := "fnExactCarryUp", fn := fun _ => fun
  | [d1, d2] => { results := [.lit (.bool true)], args := [d1, d2] }
  | _ => none }
def fnExactCarryUpRow : OpenClaim := { program := "ytdkilcphdkmiiaa", sum := "dbf9a2ef7d0085e07af3dd0ac09f6d14b1e4ed6764b0c8369feb70cafc812f25", func := "loop.example/g01263/laws.FnExactCarryUp", spec := "fnExactCarryUp", apart := false }
def FnExactCarryUpSaid : Prop := fnExactCarryUpRow.holds Try.pinned (OpenSpec.ofChange fnExactCarryUpSpec)

/-- ITS FALSE NEIGHBOUR: 'it returns false'. Refute it at one input. -/
def fnExactCarryUpWrong : ChangeSpec := { name := "fnExactCarryUp", fn := fun _ => fun
  | [d1, d2] => { results := [.lit (.bool false)], args := [d1, d2] }
  | _ => none }
def FnExactCarryUpWrongFalsely : Prop := fnExactCarryUpRow.holds Try.pinned (OpenSpec.ofChange fnExactCarryUpWrong)

/-- 'laws.FnExactTakeBoard': WHATEVER THE INPUT: true; the input reads as it did. -/
def fnExactTakeBoardSpec : ChangeSpec := { name := "fnExactTakeBoard", fn := fun _ => fun
  | [d1, d2] => { results := [.lit (.bool true)], args := [d1, d2] }
  | _ => none }
def fnExactTakeBoardRow : OpenClaim := { program := "ytdkilcphdkmiiaa", sum := "dbf9a2ef7d0085e07af3dd0ac09f6d14b1e4ed6764b0c8369feb70cafc812f25", func := "loop.example/g01263/laws.FnExactTakeBoard", spec := "fnExactTakeBoard", recurses := true, apart := false }
def FnExactTakeBoardSaid : Prop := fnExactTakeBoardRow.holds Try.pinned (OpenSpec.ofChange fnExactTakeBoardSpec)

/-- ITS FALSE NEIGHBOUR: 'it returns false'. Refute it at one input. -/
def fnExactTakeBoardWrong : ChangeSpec := { name := "fnExactTakeBoard", fn := fun _ => fun
  | [d1, d2] => { results := [.lit (.bool false)], args := [d1, d2] }
  | _ => none }
def FnExactTakeBoardWrongFalsely : Prop := fnExactTakeBoardRow.holds Try.pinned (OpenSpec.ofChange fnExactTakeBoardWrong)

/-- 'laws.FnTaken': WHATEVER THE INPUT: true; the input reads as it did. -/
def fnTakenSpec : ChangeSpec := { name := "fnTaken", fn := fun _ => fun
  | [d1, d2] => { results := [.lit (.bool true)], args := [d1, d2] }
  | _ => none }
def fnTakenRow : OpenClaim := { program := "ytdkilcphdkmiiaa", sum := "dbf9a2ef7d0085e07af3dd0ac09f6d14b1e4ed6764b0c8369feb70cafc812f25", func := "loop.example/g01263/laws.FnTaken", spec := "fnTaken", recurses := true, apart := false }
def FnTakenSaid : Prop := fnTakenRow.holds Try.pinned (OpenSpec.ofChange fnTakenSpec)

/-- ITS FALSE NEIGHBOUR: 'it returns false'. Refute it at one input. -/
def fnTakenWrong : ChangeSpec := { name := "fnTaken", fn := fun _ => fun
  | [d1, d2] => { results := [.lit (.bool false)], args := [d1, d2] }
  | _ => none }
def FnTakenWrongFalsely : Prop := fnTakenRow.holds Try.pinned (OpenSpec.ofChange fnTakenWrong)

/- THE SECOND FORM. 'bulk': how many values and letters a reading holds, each counted each time it is reached (what is shared counts as often as it is met; a slice's spare places count too). A statement '..UptoSaid' is the law's where the arguments, and the package variables that the reading takes, are together of bulk at most 1048576: NARROWER than '..Said'. Prove '..Said' where nothing that the law and all that it calls make is longer than what came in: it says more and counts as full. Else prove '..UptoSaid'. A law counts once. -/
mutual
def uptoBulk {H : Type} : DataW H → Nat
  | .lit (.string bytes) => bytes.length + 1
  | .lit _ => 1
  | .nil => 1
  | .ptr d => uptoBulk d + 1
  | .slice elems spare => uptoBulkAll elems + uptoBulkAll spare + 1
  | .agg parts => uptoBulkAll parts + 1
  | .iface _ d => uptoBulk d + 1
  | .map entries => uptoBulkEntries entries + 1
  | .held _ => 1
def uptoBulkAll {H : Type} : List (DataW H) → Nat
  | [] => 0
  | d :: r => uptoBulk d + uptoBulkAll r
def uptoBulkEntries {H : Type} : List (Lit × DataW H) → Nat
  | [] => 0
  | x :: r => uptoBulkEntry x + uptoBulkEntries r
def uptoBulkEntry {H : Type} : Lit × DataW H → Nat
  | (.string bytes, d) => bytes.length + uptoBulk d + 1
  | (_, d) => uptoBulk d + 1
 end
def uptoSmall : (H : Type) → List (DataW H) → Bool := fun _ ds => decide (uptoBulkAll ds ≤ 1048576)
def OpenSpec.upto (s : _root_.Go.ChangeSpec) : _root_.Go.OpenSpec := { _root_.Go.OpenSpec.ofChange s with cond := some uptoSmall }

/-- 'laws.FnExactValidBoard', WHERE WHAT IT READS IS OF BULK AT MOST 1048576: true; the input reads as it did. -/
def fnExactValidBoardUptoRow : OpenClaim := { program := "ytdkilcphdkmiiaa", sum := "dbf9a2ef7d0085e07af3dd0ac09f6d14b1e4ed6764b0c8369feb70cafc812f25", func := "loop.example/g01263/laws.FnExactValidBoard", spec := "fnExactValidBoard", apart := false, narrowed := true }
def FnExactValidBoardUptoSaid : Prop := fnExactValidBoardUptoRow.holds Try.pinned (OpenSpec.upto fnExactValidBoardSpec)

/-- 'laws.FnExactCountersOn', WHERE WHAT IT READS IS OF BULK AT MOST 1048576: true; the input reads as it did. -/
def fnExactCountersOnUptoRow : OpenClaim := { program := "ytdkilcphdkmiiaa", sum := "dbf9a2ef7d0085e07af3dd0ac09f6d14b1e4ed6764b0c8369feb70cafc812f25", func := "loop.example/g01263/laws.FnExactCountersOn", spec := "fnExactCountersOn", apart := false, narrowed := true }
def FnExactCountersOnUptoSaid : Prop := fnExactCountersOnUptoRow.holds Try.pinned (OpenSpec.upto fnExactCountersOnSpec)

/-- 'laws.FnExactBoardFor', WHERE WHAT IT READS IS OF BULK AT MOST 1048576: true; the input reads as it did. -/
def fnExactBoardForUptoRow : OpenClaim := { program := "ytdkilcphdkmiiaa", sum := "dbf9a2ef7d0085e07af3dd0ac09f6d14b1e4ed6764b0c8369feb70cafc812f25", func := "loop.example/g01263/laws.FnExactBoardFor", spec := "fnExactBoardFor", apart := false, narrowed := true }
def FnExactBoardForUptoSaid : Prop := fnExactBoardForUptoRow.holds Try.pinned (OpenSpec.upto fnExactBoardForSpec)

/-- 'laws.FnExactAmountOnBoard', WHERE WHAT IT READS IS OF BULK AT MOST 1048576: true; the input reads as it did. -/
def fnExactAmountOnBoardUptoRow : OpenClaim := { program := "ytdkilcphdkmiiaa", sum := "dbf9a2ef7d0085e07af3dd0ac09f6d14b1e4ed6764b0c8369feb70cafc812f25", func := "loop.example/g01263/laws.FnExactAmountOnBoard", spec := "fnExactAmountOnBoard", apart := false, narrowed := true }
def FnExactAmountOnBoardUptoSaid : Prop := fnExactAmountOnBoardUptoRow.holds Try.pinned (OpenSpec.upto fnExactAmountOnBoardSpec)

/-- 'laws.FnBoards', WHERE WHAT IT READS IS OF BULK AT MOST 1048576: true; the input reads as it did. -/
def fnBoardsUptoRow : OpenClaim := { program := "ytdkilcphdkmiiaa", sum := "dbf9a2ef7d0085e07af3dd0ac09f6d14b1e4ed6764b0c8369feb70cafc812f25", func := "loop.example/g01263/laws.FnBoards", spec := "fnBoards", apart := false, narrowed := true }
def FnBoardsUptoSaid : Prop := fnBoardsUptoRow.holds Try.pinned (OpenSpec.upto fnBoardsSpec)

/-- 'laws.FnExactJoinBoards', WHERE WHAT IT READS IS OF BULK AT MOST 1048576: true; the input reads as it did. -/
def fnExactJoinBoardsUptoRow : OpenClaim := { program := "ytdkilcphdkmiiaa", sum := "dbf9a2ef7d0085e07af3dd0ac09f6d14b1e4ed6764b0c8369feb70cafc812f25", func := "loop.example/g01263/laws.FnExactJoinBoards", spec := "fnExactJoinBoards", apart := false, narrowed := true }
def FnExactJoinBoardsUptoSaid : Prop := fnExactJoinBoardsUptoRow.holds Try.pinned (OpenSpec.upto fnExactJoinBoardsSpec)

/-- 'laws.FnExactPutCounters', WHERE WHAT IT READS IS OF BULK AT MOST 1048576: true; the input reads as it did. -/
def fnExactPutCountersUptoRow : OpenClaim := { program := "ytdkilcphdkmiiaa", sum := "dbf9a2ef7d0085e07af3dd0ac09f6d14b1e4ed6764b0c8369feb70cafc812f25", func := "loop.example/g01263/laws.FnExactPutCounters", spec := "fnExactPutCounters", apart := false, narrowed := true }
def FnExactPutCountersUptoSaid : Prop := fnExactPutCountersUptoRow.holds Try.pinned (OpenSpec.upto fnExactPutCountersSpec)

/-- 'laws.FnExactTidyBoard', WHERE WHAT IT READS IS OF BULK AT MOST 1048576: true; the input reads as it did. -/
def fnExactTidyBoardUptoRow : OpenClaim := { program := "ytdkilcphdkmiiaa", sum := "dbf9a2ef7d0085e07af3dd0ac09f6d14b1e4ed6764b0c8369feb70cafc812f25", func := "loop.example/g01263/laws.FnExactTidyBoard", spec := "fnExactTidyBoard", apart := false, narrowed := true }
def FnExactTidyBoardUptoSaid : Prop := fnExactTidyBoardUptoRow.holds Try.pinned (OpenSpec.upto fnExactTidyBoardSpec)

/-- 'laws.FnExactBorrowDown', WHERE WHAT IT READS IS OF BULK AT MOST 1048576: true; the input reads as it did. -/
def fnExactBorrowDownUptoRow : OpenClaim := { program := "ytdkilcphdkmiiaa", sum := "dbf9a2ef7d0085e07af3dd0ac09f6d14b1e4ed6764b0c8369feb70cafc812f25", func := "loop.example/g01263/laws.FnExactBorrowDown", spec := "fnExactBorrowDown", apart := false, narrowed := true }
def FnExactBorrowDownUptoSaid : Prop := fnExactBorrowDownUptoRow.holds Try.pinned (OpenSpec.upto fnExactBorrowDownSpec)

/-- 'laws.FnExactCarryUp', WHERE WHAT IT READS IS OF BULK AT MOST 1048576: true; the input reads as it did. -/
def fnExactCarryUpUptoRow : OpenClaim := { program := "ytdkilcphdkmiiaa", sum := "dbf9a2ef7d0085e07af3dd0ac09f6d14b1e4ed6764b0c8369feb70cafc812f25", func := "loop.example/g01263/laws.FnExactCarryUp", spec := "fnExactCarryUp", apart := false, narrowed := true }
def FnExactCarryUpUptoSaid : Prop := fnExactCarryUpUptoRow.holds Try.pinned (OpenSpec.upto fnExactCarryUpSpec)

/-- 'laws.FnExactTakeBoard', WHERE WHAT IT READS IS OF BULK AT MOST 1048576: true; the input reads as it did. -/
def fnExactTakeBoardUptoRow : OpenClaim := { program := "ytdkilcphdkmiiaa", sum := "dbf9a2ef7d0085e07af3dd0ac09f6d14b1e4ed6764b0c8369feb70cafc812f25", func := "loop.example/g01263/laws.FnExactTakeBoard", spec := "fnExactTakeBoard", recurses := true, apart := false, narrowed := true }
def FnExactTakeBoardUptoSaid : Prop := fnExactTakeBoardUptoRow.holds Try.pinned (OpenSpec.upto fnExactTakeBoardSpec)

/-- 'laws.FnTaken', WHERE WHAT IT READS IS OF BULK AT MOST 1048576: true; the input reads as it did. -/
def fnTakenUptoRow : OpenClaim := { program := "ytdkilcphdkmiiaa", sum := "dbf9a2ef7d0085e07af3dd0ac09f6d14b1e4ed6764b0c8369feb70cafc812f25", func := "loop.example/g01263/laws.FnTaken", spec := "fnTaken", recurses := true, apart := false, narrowed := true }
def FnTakenUptoSaid : Prop := fnTakenUptoRow.holds Try.pinned (OpenSpec.upto fnTakenSpec)

end Rows
end Go.Proofs.Ytdkilcphdkmiiaa
