/-
  DERIVED. GIVEN WITH THE SEED: THE CARDS: each row of YtmockobmiagbcaaDoorRows.lean that lists a variable, with what it lists TIED to the program's text (the seventh form; the later family's looks); each row that meets fmt, with fmt's text TOLD by the authors' own Lean function (tested against real Go, not proved from fmt's source: count such statements apart). THE CARD IS WHAT COUNTS. Prove the row's statement (the work); the ties are given (YtmockobmiagbcaaDoorTie.lean); close each card by the builder's one call (the guide's Derived/Test/ToyasCard.lean, 'card_holds'). Laid BY PROGRAM, IN A SANDBOX (cutbox-door.mjs). By AI agents, Wed Nov 11 2026. No macro, syntax, notation, axiom, sorry.
-/
import Derived.Test.YtmockobmiagbcaaDoorRows
import GoSem.ClaimSeven
namespace Go.Proofs.YtmockobmiagbcaaDoor
namespace Rows

/-- THE TIED CARD OF 'laws.FnInterest'. -/
def fnInterestCard : Claim7 := { stood := { row := fnInterestRow, standIns := [], harness := (true, "c76a6bf79f5ef7864144c9912c02b6f00b95e978db8e3e07f5694f6c4b9011aa"), looks := false }, kinds := [], alts := [], laidByText := true, laidKinds := [.data, .data, .data, .data, .pinned], laidTests := true, laidLooks := .later }
def FnInterestCardSaid : Prop := Claim7.holds Tryd.pinned (.plain (OpenSpec.ofChange fnInterestSpec)) fnInterestCard

/-- THE TIED CARD OF 'laws.FnExactLoanText'. -/
def fnExactLoanTextCard : Claim7 := { stood := { row := fnExactLoanTextRow, standIns := [], harness := (true, "c76a6bf79f5ef7864144c9912c02b6f00b95e978db8e3e07f5694f6c4b9011aa"), looks := false }, kinds := [], alts := [], laidByText := true, laidKinds := [.data, .data, .data], laidTests := true, laidLooks := .later }
def FnExactLoanTextCardSaid : Prop := Claim7.holds Tryd.pinned (.plain (OpenSpec.ofChange fnExactLoanTextSpec)) fnExactLoanTextCard

/-- THE TIED CARD OF 'laws.FnExactReadLoan'. -/
def fnExactReadLoanCard : Claim7 := { stood := { row := fnExactReadLoanRow, standIns := [], harness := (true, "c76a6bf79f5ef7864144c9912c02b6f00b95e978db8e3e07f5694f6c4b9011aa"), looks := false }, kinds := [], alts := [], laidByText := true, laidKinds := [.data, .data, .data, .data, .pinned], laidTests := true, laidLooks := .later }
def FnExactReadLoanCardSaid : Prop := Claim7.holds Tryd.pinned (.plain (OpenSpec.ofChange fnExactReadLoanSpec)) fnExactReadLoanCard

/-- THE SECOND FORM's CARD OF 'laws.FnInterest'. -/
def fnInterestUptoCard : Claim7 := { stood := { row := fnInterestUptoRow, standIns := [], harness := (true, "c76a6bf79f5ef7864144c9912c02b6f00b95e978db8e3e07f5694f6c4b9011aa"), looks := false }, kinds := [], alts := [], laidByText := true, laidKinds := [.data, .data, .data, .data, .pinned], laidTests := true, laidLooks := .later }
def FnInterestUptoCardSaid : Prop := Claim7.holds Tryd.pinned (.plain (OpenSpec.upto fnInterestSpec)) fnInterestUptoCard

/-- THE SECOND FORM's CARD OF 'laws.FnExactLoanText'. -/
def fnExactLoanTextUptoCard : Claim7 := { stood := { row := fnExactLoanTextUptoRow, standIns := [], harness := (true, "c76a6bf79f5ef7864144c9912c02b6f00b95e978db8e3e07f5694f6c4b9011aa"), looks := false }, kinds := [], alts := [], laidByText := true, laidKinds := [.data, .data, .data], laidTests := true, laidLooks := .later }
def FnExactLoanTextUptoCardSaid : Prop := Claim7.holds Tryd.pinned (.plain (OpenSpec.upto fnExactLoanTextSpec)) fnExactLoanTextUptoCard

/-- THE SECOND FORM's CARD OF 'laws.FnExactReadLoan'. -/
def fnExactReadLoanUptoCard : Claim7 := { stood := { row := fnExactReadLoanUptoRow, standIns := [], harness := (true, "c76a6bf79f5ef7864144c9912c02b6f00b95e978db8e3e07f5694f6c4b9011aa"), looks := false }, kinds := [], alts := [], laidByText := true, laidKinds := [.data, .data, .data, .data, .pinned], laidTests := true, laidLooks := .later }
def FnExactReadLoanUptoCardSaid : Prop := Claim7.holds Tryd.pinned (.plain (OpenSpec.upto fnExactReadLoanSpec)) fnExactReadLoanUptoCard
end Rows
end Go.Proofs.YtmockobmiagbcaaDoor
