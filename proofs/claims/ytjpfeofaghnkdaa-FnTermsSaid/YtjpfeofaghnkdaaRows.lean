/-
  No cell of these rows narrows 'for every input' (looked for: loops, veiled, ifaces, maps, wideKeys, modest, calm, conditions, laid).
  DERIVED. THE GIVEN ROWS OF THIS SEAT. 11 by the template 'for every input the law returns true; each argument reads behind the call as it read before'; 0 by the template 'total and deterministic' (their statements: YtjpfeofaghnkdaaTotals.lean).
  GIVEN WITH THE SEED: the statements are not yours to turn. If you find one false, say at which input.
  Laid BY PROGRAM, IN A SANDBOX (cutbox-rows.mjs): the forced cells as the released guide's own fill.sh prints them over the translation 80204ce2f92cbf70… (all of the seat's roots in one cut). By AI agents, Wed Nov 11 2026. No macro, syntax, notation, axiom, sorry.
-/
import Derived.Test.YtjpfeofaghnkdaaChecked
import GoSem.Claim
import GoSem.ClaimJoined
import GoSem.ClaimMapViews
import Derived.JoinedTies
import Derived.KernelRfl
namespace Go.Proofs.Ytjpfeofaghnkdaa
/- THE CELL 'sum', in the pinned program and in every row, IS THE sha256 OF THE DUMP (.gsa) THAT YtjpfeofaghnkdaaProg.lean LOADS. Nothing in Lean hashes anything: it is a label: what it is worth is what the hold of that sum in a sandbox is worth. -/
noncomputable def Try.pinned : Pinned := { name := "ytjpfeofaghnkdaa", sum := "80204ce2f92cbf709e45a98b3bf2c8140670d01a6b04402fb2c5f2754f190ae2", checked := Try.checked }
namespace Rows
def none {H : Type} : Left H := { results := [], args := [] }

/-- 'laws.FnExactWorthBefore': WHATEVER THE INPUT: true; the input reads as it did. -/
def fnExactWorthBeforeSpec : ChangeSpec := { name := "fnExactWorthBefore", fn := fun _ => fun
  | [d1, d2, d3] => { results := [.lit (.bool true)], args := [d1, d2, d3] }
  | _ => none }
def fnExactWorthBeforeRow : OpenClaim := { program := "ytjpfeofaghnkdaa", sum := "80204ce2f92cbf709e45a98b3bf2c8140670d01a6b04402fb2c5f2754f190ae2", func := "loop.example/g01263/laws.FnExactWorthBefore", spec := "fnExactWorthBefore", unfollowed := true, recurses := true, apart := false }
def FnExactWorthBeforeSaid : Prop := fnExactWorthBeforeRow.holds Try.pinned (OpenSpec.ofChange fnExactWorthBeforeSpec)

/-- ITS FALSE NEIGHBOUR: 'it returns false'. Refute it at one input. -/
def fnExactWorthBeforeWrong : ChangeSpec := { name := "fnExactWorthBefore", fn := fun _ => fun
  | [d1, d2, d3] => { results := [.lit (.bool false)], args := [d1, d2, d3] }
  | _ => none }
def FnExactWorthBeforeWrongFalsely : Prop := fnExactWorthBeforeRow.holds Try.pinned (OpenSpec.ofChange fnExactWorthBeforeWrong)

/-- 'laws.FnExactDiscountOf': WHATEVER THE INPUT: true; the input reads as it did. -/
def fnExactDiscountOfSpec : ChangeSpec := { name := "fnExactDiscountOf", fn := fun _ => fun
  | [d1, d2, d3] => { results := [.lit (.bool true)], args := [d1, d2, d3] }
  | _ => none }
def fnExactDiscountOfRow : OpenClaim := { program := "ytjpfeofaghnkdaa", sum := "80204ce2f92cbf709e45a98b3bf2c8140670d01a6b04402fb2c5f2754f190ae2", func := "loop.example/g01263/laws.FnExactDiscountOf", spec := "fnExactDiscountOf", unfollowed := true, recurses := true, apart := false }
def FnExactDiscountOfSaid : Prop := fnExactDiscountOfRow.holds Try.pinned (OpenSpec.ofChange fnExactDiscountOfSpec)

/-- ITS FALSE NEIGHBOUR: 'it returns false'. Refute it at one input. -/
def fnExactDiscountOfWrong : ChangeSpec := { name := "fnExactDiscountOf", fn := fun _ => fun
  | [d1, d2, d3] => { results := [.lit (.bool false)], args := [d1, d2, d3] }
  | _ => none }
def FnExactDiscountOfWrongFalsely : Prop := fnExactDiscountOfRow.holds Try.pinned (OpenSpec.ofChange fnExactDiscountOfWrong)

/-- 'laws.FnExactGrownAmount': WHATEVER THE INPUT: true; the input reads as it did. -/
def fnExactGrownAmountSpec : ChangeSpec := { name := "fnExactGrownAmount", fn := fun _ => fun
  | [d1, d2, d3, d4] => { results := [.lit (.bool true)], args := [d1, d2, d3, d4] }
  | _ => none }
def fnExactGrownAmountRow : OpenClaim := { program := "ytjpfeofaghnkdaa", sum := "80204ce2f92cbf709e45a98b3bf2c8140670d01a6b04402fb2c5f2754f190ae2", func := "loop.example/g01263/laws.FnExactGrownAmount", spec := "fnExactGrownAmount", apart := false }
def FnExactGrownAmountSaid : Prop := fnExactGrownAmountRow.holds Try.pinned (OpenSpec.ofChange fnExactGrownAmountSpec)

/-- ITS FALSE NEIGHBOUR: 'it returns false'. Refute it at one input. -/
def fnExactGrownAmountWrong : ChangeSpec := { name := "fnExactGrownAmount", fn := fun _ => fun
  | [d1, d2, d3, d4] => { results := [.lit (.bool false)], args := [d1, d2, d3, d4] }
  | _ => none }
def FnExactGrownAmountWrongFalsely : Prop := fnExactGrownAmountRow.holds Try.pinned (OpenSpec.ofChange fnExactGrownAmountWrong)

/-- 'laws.FnExactDayDouble': WHATEVER THE INPUT: true; the input reads as it did. -/
def fnExactDayDoubleSpec : ChangeSpec := { name := "fnExactDayDouble", fn := fun _ => fun
  | [d1, d2, d3] => { results := [.lit (.bool true)], args := [d1, d2, d3] }
  | _ => none }
def fnExactDayDoubleRow : OpenClaim := { program := "ytjpfeofaghnkdaa", sum := "80204ce2f92cbf709e45a98b3bf2c8140670d01a6b04402fb2c5f2754f190ae2", func := "loop.example/g01263/laws.FnExactDayDouble", spec := "fnExactDayDouble", apart := false }
def FnExactDayDoubleSaid : Prop := fnExactDayDoubleRow.holds Try.pinned (OpenSpec.ofChange fnExactDayDoubleSpec)

/-- ITS FALSE NEIGHBOUR: 'it returns false'. Refute it at one input. -/
def fnExactDayDoubleWrong : ChangeSpec := { name := "fnExactDayDouble", fn := fun _ => fun
  | [d1, d2, d3] => { results := [.lit (.bool false)], args := [d1, d2, d3] }
  | _ => none }
def FnExactDayDoubleWrongFalsely : Prop := fnExactDayDoubleRow.holds Try.pinned (OpenSpec.ofChange fnExactDayDoubleWrong)

/-- 'laws.FnExactEvenPay': WHATEVER THE INPUT: true; the input reads as it did. -/
def fnExactEvenPaySpec : ChangeSpec := { name := "fnExactEvenPay", fn := fun _ => fun
  | [d1, d2, d3] => { results := [.lit (.bool true)], args := [d1, d2, d3] }
  | _ => none }
def fnExactEvenPayRow : OpenClaim := { program := "ytjpfeofaghnkdaa", sum := "80204ce2f92cbf709e45a98b3bf2c8140670d01a6b04402fb2c5f2754f190ae2", func := "loop.example/g01263/laws.FnExactEvenPay", spec := "fnExactEvenPay", unfollowed := true, recurses := true, apart := false }
def FnExactEvenPaySaid : Prop := fnExactEvenPayRow.holds Try.pinned (OpenSpec.ofChange fnExactEvenPaySpec)

/-- ITS FALSE NEIGHBOUR: 'it returns false'. Refute it at one input. -/
def fnExactEvenPayWrong : ChangeSpec := { name := "fnExactEvenPay", fn := fun _ => fun
  | [d1, d2, d3] => { results := [.lit (.bool false)], args := [d1, d2, d3] }
  | _ => none }
def FnExactEvenPayWrongFalsely : Prop := fnExactEvenPayRow.holds Try.pinned (OpenSpec.ofChange fnExactEvenPayWrong)

/-- 'laws.FnWorth': WHATEVER THE INPUT: true; the input reads as it did. -/
def fnWorthSpec : ChangeSpec := { name := "fnWorth", fn := fun _ => fun
  | [d1, d2] => { results := [.lit (.bool true)], args := [d1, d2] }
  | _ => none }
def fnWorthRow : OpenClaim := { program := "ytjpfeofaghnkdaa", sum := "80204ce2f92cbf709e45a98b3bf2c8140670d01a6b04402fb2c5f2754f190ae2", func := "loop.example/g01263/laws.FnWorth", spec := "fnWorth", unfollowed := true, recurses := true, apart := false }
def FnWorthSaid : Prop := fnWorthRow.holds Try.pinned (OpenSpec.ofChange fnWorthSpec)

/-- ITS FALSE NEIGHBOUR: 'it returns false'. Refute it at one input. -/
def fnWorthWrong : ChangeSpec := { name := "fnWorth", fn := fun _ => fun
  | [d1, d2] => { results := [.lit (.bool false)], args := [d1, d2] }
  | _ => none }
def FnWorthWrongFalsely : Prop := fnWorthRow.holds Try.pinned (OpenSpec.ofChange fnWorthWrong)

/-- 'laws.FnExactTermsFor': WHATEVER THE INPUT: true; the input reads as it did. -/
def fnExactTermsForSpec : ChangeSpec := { name := "fnExactTermsFor", fn := fun _ => fun
  | [d1, d2, d3] => { results := [.lit (.bool true)], args := [d1, d2, d3] }
  | _ => none }
def fnExactTermsForRow : OpenClaim := { program := "ytjpfeofaghnkdaa", sum := "80204ce2f92cbf709e45a98b3bf2c8140670d01a6b04402fb2c5f2754f190ae2", func := "loop.example/g01263/laws.FnExactTermsFor", spec := "fnExactTermsFor", apart := false }
def FnExactTermsForSaid : Prop := fnExactTermsForRow.holds Try.pinned (OpenSpec.ofChange fnExactTermsForSpec)

/-- ITS FALSE NEIGHBOUR: 'it returns false'. Refute it at one input. -/
def fnExactTermsForWrong : ChangeSpec := { name := "fnExactTermsFor", fn := fun _ => fun
  | [d1, d2, d3] => { results := [.lit (.bool false)], args := [d1, d2, d3] }
  | _ => none }
def FnExactTermsForWrongFalsely : Prop := fnExactTermsForRow.holds Try.pinned (OpenSpec.ofChange fnExactTermsForWrong)

/-- 'laws.FnExactCheapestLoan': WHATEVER THE INPUT: true; the input reads as it did. -/
def fnExactCheapestLoanSpec : ChangeSpec := { name := "fnExactCheapestLoan", fn := fun _ => fun
  | [d1, d2] => { results := [.lit (.bool true)], args := [d1, d2] }
  | _ => none }
def fnExactCheapestLoanRow : OpenClaim := { program := "ytjpfeofaghnkdaa", sum := "80204ce2f92cbf709e45a98b3bf2c8140670d01a6b04402fb2c5f2754f190ae2", func := "loop.example/g01263/laws.FnExactCheapestLoan", spec := "fnExactCheapestLoan", apart := false }
def FnExactCheapestLoanSaid : Prop := fnExactCheapestLoanRow.holds Try.pinned (OpenSpec.ofChange fnExactCheapestLoanSpec)

/-- ITS FALSE NEIGHBOUR: 'it returns false'. Refute it at one input. -/
def fnExactCheapestLoanWrong : ChangeSpec := { name := "fnExactCheapestLoan", fn := fun _ => fun
  | [d1, d2] => { results := [.lit (.bool false)], args := [d1, d2] }
  | _ => none }
def FnExactCheapestLoanWrongFalsely : Prop := fnExactCheapestLoanRow.holds Try.pinned (OpenSpec.ofChange fnExactCheapestLoanWrong)

/-- 'laws.FnExactLeftAfter': WHATEVER THE INPUT: true; the input reads as it did. -/
def fnExactLeftAfterSpec : ChangeSpec := { name := "fnExactLeftAfter", fn := fun _ => fun
  | [d1, d2, d3] => { results := [.lit (.bool true)], args := [d1, d2, d3] }
  | _ => none }
def fnExactLeftAfterRow : OpenClaim := { program := "ytjpfeofaghnkdaa", sum := "80204ce2f92cbf709e45a98b3bf2c8140670d01a6b04402fb2c5f2754f190ae2", func := "loop.example/g01263/laws.FnExactLeftAfter", spec := "fnExactLeftAfter", apart := false }
def FnExactLeftAfterSaid : Prop := fnExactLeftAfterRow.holds Try.pinned (OpenSpec.ofChange fnExactLeftAfterSpec)

/-- ITS FALSE NEIGHBOUR: 'it returns false'. Refute it at one input. -/
def fnExactLeftAfterWrong : ChangeSpec := { name := "fnExactLeftAfter", fn := fun _ => fun
  | [d1, d2, d3] => { results := [.lit (.bool false)], args := [d1, d2, d3] }
  | _ => none }
def FnExactLeftAfterWrongFalsely : Prop := fnExactLeftAfterRow.holds Try.pinned (OpenSpec.ofChange fnExactLeftAfterWrong)

/-- 'laws.FnExactPayLoan': WHATEVER THE INPUT: true; the input reads as it did. -/
def fnExactPayLoanSpec : ChangeSpec := { name := "fnExactPayLoan", fn := fun _ => fun
  | [d1, d2] => { results := [.lit (.bool true)], args := [d1, d2] }
  | _ => none }
def fnExactPayLoanRow : OpenClaim := { program := "ytjpfeofaghnkdaa", sum := "80204ce2f92cbf709e45a98b3bf2c8140670d01a6b04402fb2c5f2754f190ae2", func := "loop.example/g01263/laws.FnExactPayLoan", spec := "fnExactPayLoan", apart := false }
def FnExactPayLoanSaid : Prop := fnExactPayLoanRow.holds Try.pinned (OpenSpec.ofChange fnExactPayLoanSpec)

/-- ITS FALSE NEIGHBOUR: 'it returns false'. Refute it at one input. -/
def fnExactPayLoanWrong : ChangeSpec := { name := "fnExactPayLoan", fn := fun _ => fun
  | [d1, d2] => { results := [.lit (.bool false)], args := [d1, d2] }
  | _ => none }
def FnExactPayLoanWrongFalsely : Prop := fnExactPayLoanRow.holds Try.pinned (OpenSpec.ofChange fnExactPayLoanWrong)

/-- 'laws.FnTerms': WHATEVER THE INPUT: true; the input reads as it did. -/
def fnTermsSpec : ChangeSpec := { name := "fnTerms", fn := fun _ => fun
  | [d1, d2] => { results := [.lit (.bool true)], args := [d1, d2] }
  | _ => none }
def fnTermsRow : OpenClaim := { program := "ytjpfeofaghnkdaa", sum := "80204ce2f92cbf709e45a98b3bf2c8140670d01a6b04402fb2c5f2754f190ae2", func := "loop.example/g01263/laws.FnTerms", spec := "fnTerms", unfollowed := true, recurses := true, apart := false }
def FnTermsSaid : Prop := fnTermsRow.holds Try.pinned (OpenSpec.ofChange fnTermsSpec)

/-- ITS FALSE NEIGHBOUR: 'it returns false'. Refute it at one input. -/
def fnTermsWrong : ChangeSpec := { name := "fnTerms", fn := fun _ => fun
  | [d1, d2] => { results := [.lit (.bool false)], args := [d1, d2] }
  | _ => none }
def FnTermsWrongFalsely : Prop := fnTermsRow.holds Try.pinned (OpenSpec.ofChange fnTermsWrong)

/- THE SECOND FORM. 'bulk': how many values and letters a reading holds, each counted each time it is reached (what is shared counts as often as it is met; a slice's spare places count too). A statement '..UptoSaid' is the law's where the arguments, and the package variables that the reading takes, are together of bulk at most 1048576: NARROWER than '..Said'. Prove '..Said' where nothing that the law and all that it calls make is longer than what came in: it says more and counts as full. Else prove '..UptoSaid'. A law counts once. -/
mutual
def uptoBulk {H : Type} : DataW H → Nat
  | .lit (.string bytes) => bytes.length + 1
  | .lit _ => 1
  | .nil => 1
  | .ptr d => uptoBulk d + 1
  | .slice elems spare => uptoBulkAll elems + uptoBulkAll spare + 1
  | .agg parts => uptoBulkAll parts + 1
  | .iface _ d => uptoBulk d + 1
  | .map entries => uptoBulkEntries entries + 1
  | .held _ => 1
def uptoBulkAll {H : Type} : List (DataW H) → Nat
  | [] => 0
  | d :: r => uptoBulk d + uptoBulkAll r
def uptoBulkEntries {H : Type} : List (Lit × DataW H) → Nat
  | [] => 0
  | x :: r => uptoBulkEntry x + uptoBulkEntries r
def uptoBulkEntry {H : Type} : Lit × DataW H → Nat
  | (.string bytes, d) => bytes.length + uptoBulk d + 1
  | (_, d) => uptoBulk d + 1
 end
def uptoSmall : (H : Type) → List (DataW H) → Bool := fun _ ds => decide (uptoBulkAll ds ≤ 1048576)
def OpenSpec.upto (s : _root_.Go.ChangeSpec) : _root_.Go.OpenSpec := { _root_.Go.OpenSpec.ofChange s with cond := some uptoSmall }

/-- 'laws.FnExactWorthBefore', WHERE WHAT IT READS IS OF BULK AT MOST 1048576: true; the input reads as it did. -/
def fnExactWorthBeforeUptoRow : OpenClaim := { program := "ytjpfeofaghnkdaa", sum := "80204ce2f92cbf709e45a98b3bf2c8140670d01a6b04402fb2c5f2754f190ae2", func := "loop.example/g01263/laws.FnExactWorthBefore", spec := "fnExactWorthBefore", unfollowed := true, recurses := true, apart := false, narrowed := true }
def FnExactWorthBeforeUptoSaid : Prop := fnExactWorthBeforeUptoRow.holds Try.pinned (OpenSpec.upto fnExactWorthBeforeSpec)

/-- 'laws.FnExactDiscountOf', WHERE WHAT IT READS IS OF BULK AT MOST 1048576: true; the input reads as it did. -/
def fnExactDiscountOfUptoRow : OpenClaim := { program := "ytjpfeofaghnkdaa", sum := "80204ce2f92cbf709e45a98b3bf2c8140670d01a6b04402fb2c5f2754f190ae2", func := "loop.example/g01263/laws.FnExactDiscountOf", spec := "fnExactDiscountOf", unfollowed := true, recurses := true, apart := false, narrowed := true }
def FnExactDiscountOfUptoSaid : Prop := fnExactDiscountOfUptoRow.holds Try.pinned (OpenSpec.upto fnExactDiscountOfSpec)

/-- 'laws.FnExactGrownAmount', WHERE WHAT IT READS IS OF BULK AT MOST 1048576: true; the input reads as it did. -/
def fnExactGrownAmountUptoRow : OpenClaim := { program := "ytjpfeofaghnkdaa", sum := "80204ce2f92cbf709e45a98b3bf2c8140670d01a6b04402fb2c5f2754f190ae2", func := "loop.example/g01263/laws.FnExactGrownAmount", spec := "fnExactGrownAmount", apart := false, narrowed := true }
def FnExactGrownAmountUptoSaid : Prop := fnExactGrownAmountUptoRow.holds Try.pinned (OpenSpec.upto fnExactGrownAmountSpec)

/-- 'laws.FnExactDayDouble', WHERE WHAT IT READS IS OF BULK AT MOST 1048576: true; the input reads as it did. -/
def fnExactDayDoubleUptoRow : OpenClaim := { program := "ytjpfeofaghnkdaa", sum := "80204ce2f92cbf709e45a98b3bf2c8140670d01a6b04402fb2c5f2754f190ae2", func := "loop.example/g01263/laws.FnExactDayDouble", spec := "fnExactDayDouble", apart := false, narrowed := true }
def FnExactDayDoubleUptoSaid : Prop := fnExactDayDoubleUptoRow.holds Try.pinned (OpenSpec.upto fnExactDayDoubleSpec)

/-- 'laws.FnExactEvenPay', WHERE WHAT IT READS IS OF BULK AT MOST 1048576: true; the input reads as it did. -/
def fnExactEvenPayUptoRow : OpenClaim := { program := "ytjpfeofaghnkdaa", sum := "80204ce2f92cbf709e45a98b3bf2c8140670d01a6b04402fb2c5f2754f190ae2", func := "loop.example/g01263/laws.FnExactEvenPay", spec := "fnExactEvenPay", unfollowed := true, recurses := true, apart := false, narrowed := true }
def FnExactEvenPayUptoSaid : Prop := fnExactEvenPayUptoRow.holds Try.pinned (OpenSpec.upto fnExactEvenPaySpec)

/-- 'laws.FnWorth', WHERE WHAT IT READS IS OF BULK AT MOST 1048576: true; the input reads as it did. -/
def fnWorthUptoRow : OpenClaim := { program := "ytjpfeofaghnkdaa", sum := "80204ce2f92cbf709e45a98b3bf2c8140670d01a6b04402fb2c5f2754f190ae2", func := "loop.example/g01263/laws.FnWorth", spec := "fnWorth", unfollowed := true, recurses := true, apart := false, narrowed := true }
def FnWorthUptoSaid : Prop := fnWorthUptoRow.holds Try.pinned (OpenSpec.upto fnWorthSpec)

/-- 'laws.FnExactTermsFor', WHERE WHAT IT READS IS OF BULK AT MOST 1048576: true; the input reads as it did. -/
def fnExactTermsForUptoRow : OpenClaim := { program := "ytjpfeofaghnkdaa", sum := "80204ce2f92cbf709e45a98b3bf2c8140670d01a6b04402fb2c5f2754f190ae2", func := "loop.example/g01263/laws.FnExactTermsFor", spec := "fnExactTermsFor", apart := false, narrowed := true }
def FnExactTermsForUptoSaid : Prop := fnExactTermsForUptoRow.holds Try.pinned (OpenSpec.upto fnExactTermsForSpec)

/-- 'laws.FnExactCheapestLoan', WHERE WHAT IT READS IS OF BULK AT MOST 1048576: true; the input reads as it did. -/
def fnExactCheapestLoanUptoRow : OpenClaim := { program := "ytjpfeofaghnkdaa", sum := "80204ce2f92cbf709e45a98b3bf2c8140670d01a6b04402fb2c5f2754f190ae2", func := "loop.example/g01263/laws.FnExactCheapestLoan", spec := "fnExactCheapestLoan", apart := false, narrowed := true }
def FnExactCheapestLoanUptoSaid : Prop := fnExactCheapestLoanUptoRow.holds Try.pinned (OpenSpec.upto fnExactCheapestLoanSpec)

/-- 'laws.FnExactLeftAfter', WHERE WHAT IT READS IS OF BULK AT MOST 1048576: true; the input reads as it did. -/
def fnExactLeftAfterUptoRow : OpenClaim := { program := "ytjpfeofaghnkdaa", sum := "80204ce2f92cbf709e45a98b3bf2c8140670d01a6b04402fb2c5f2754f190ae2", func := "loop.example/g01263/laws.FnExactLeftAfter", spec := "fnExactLeftAfter", apart := false, narrowed := true }
def FnExactLeftAfterUptoSaid : Prop := fnExactLeftAfterUptoRow.holds Try.pinned (OpenSpec.upto fnExactLeftAfterSpec)

/-- 'laws.FnExactPayLoan', WHERE WHAT IT READS IS OF BULK AT MOST 1048576: true; the input reads as it did. -/
def fnExactPayLoanUptoRow : OpenClaim := { program := "ytjpfeofaghnkdaa", sum := "80204ce2f92cbf709e45a98b3bf2c8140670d01a6b04402fb2c5f2754f190ae2", func := "loop.example/g01263/laws.FnExactPayLoan", spec := "fnExactPayLoan", apart := false, narrowed := true }
def FnExactPayLoanUptoSaid : Prop := fnExactPayLoanUptoRow.holds Try.pinned (OpenSpec.upto fnExactPayLoanSpec)

/-- 'laws.FnTerms', WHERE WHAT IT READS IS OF BULK AT MOST 1048576: true; the input reads as it did. -/
def fnTermsUptoRow : OpenClaim := { program := "ytjpfeofaghnkdaa", sum := "80204ce2f92cbf709e45a98b3bf2c8140670d01a6b04402fb2c5f2754f190ae2", func := "loop.example/g01263/laws.FnTerms", spec := "fnTerms", unfollowed := true, recurses := true, apart := false, narrowed := true }
def FnTermsUptoSaid : Prop := fnTermsUptoRow.holds Try.pinned (OpenSpec.upto fnTermsSpec)

end Rows
end Go.Proofs.Ytjpfeofaghnkdaa
