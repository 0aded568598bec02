/-
  DERIVED. GIVEN WITH THE SEED: THE CARDS: each row of YtcfabmmonoljeaaDoorRows.lean that lists a variable, with what it lists TIED to the program's text (the seventh form; the later family's looks); each row that meets fmt, with fmt's text TOLD by the authors' own Lean function (tested against real Go, not proved from fmt's source: count such statements apart). THE CARD IS WHAT COUNTS. Prove the row's statement (the work); the ties are given (YtcfabmmonoljeaaDoorTie.lean); close each card by the builder's one call (the guide's Derived/Test/ToyasCard.lean, 'card_holds'). Laid BY PROGRAM, IN A SANDBOX (cutbox-door.mjs). By AI agents, Wed Nov 11 2026. No macro, syntax, notation, axiom, sorry.
-/
import Derived.Test.YtcfabmmonoljeaaDoorRows
import GoSem.ClaimSeven
namespace Go.Proofs.YtcfabmmonoljeaaDoor
namespace Rows

/-- THE TIED CARD OF 'laws.FnWood'. -/
def fnWoodCard : Claim7 := { stood := { row := fnWoodRow, standIns := [], harness := (true, "bc3f367a046406f4d030614771dce912bcb7757137ba0b4af65ebcea413e67ed"), looks := false }, kinds := [], alts := [], laidByText := true, laidKinds := [.data, .data, .data, .data, .pinned], laidTests := true, laidLooks := .later }
def FnWoodCardSaid : Prop := Claim7.holds Tryd.pinned (.plain (OpenSpec.ofChange fnWoodSpec)) fnWoodCard

/-- THE TIED CARD OF 'laws.FnExactTamperText'. -/
def fnExactTamperTextCard : Claim7 := { stood := { row := fnExactTamperTextRow, standIns := [], harness := (true, "bc3f367a046406f4d030614771dce912bcb7757137ba0b4af65ebcea413e67ed"), looks := false }, kinds := [], alts := [], laidByText := true, laidKinds := [.data, .data, .data], laidTests := true, laidLooks := .later }
def FnExactTamperTextCardSaid : Prop := Claim7.holds Tryd.pinned (.plain (OpenSpec.ofChange fnExactTamperTextSpec)) fnExactTamperTextCard

/-- THE TIED CARD OF 'laws.FnExactReadTamper'. -/
def fnExactReadTamperCard : Claim7 := { stood := { row := fnExactReadTamperRow, standIns := [], harness := (true, "bc3f367a046406f4d030614771dce912bcb7757137ba0b4af65ebcea413e67ed"), looks := false }, kinds := [], alts := [], laidByText := true, laidKinds := [.data, .data, .data, .data, .pinned], laidTests := true, laidLooks := .later }
def FnExactReadTamperCardSaid : Prop := Claim7.holds Tryd.pinned (.plain (OpenSpec.ofChange fnExactReadTamperSpec)) fnExactReadTamperCard

/-- THE SECOND FORM's CARD OF 'laws.FnWood'. -/
def fnWoodUptoCard : Claim7 := { stood := { row := fnWoodUptoRow, standIns := [], harness := (true, "bc3f367a046406f4d030614771dce912bcb7757137ba0b4af65ebcea413e67ed"), looks := false }, kinds := [], alts := [], laidByText := true, laidKinds := [.data, .data, .data, .data, .pinned], laidTests := true, laidLooks := .later }
def FnWoodUptoCardSaid : Prop := Claim7.holds Tryd.pinned (.plain (OpenSpec.upto fnWoodSpec)) fnWoodUptoCard

/-- THE SECOND FORM's CARD OF 'laws.FnExactTamperText'. -/
def fnExactTamperTextUptoCard : Claim7 := { stood := { row := fnExactTamperTextUptoRow, standIns := [], harness := (true, "bc3f367a046406f4d030614771dce912bcb7757137ba0b4af65ebcea413e67ed"), looks := false }, kinds := [], alts := [], laidByText := true, laidKinds := [.data, .data, .data], laidTests := true, laidLooks := .later }
def FnExactTamperTextUptoCardSaid : Prop := Claim7.holds Tryd.pinned (.plain (OpenSpec.upto fnExactTamperTextSpec)) fnExactTamperTextUptoCard

/-- THE SECOND FORM's CARD OF 'laws.FnExactReadTamper'. -/
def fnExactReadTamperUptoCard : Claim7 := { stood := { row := fnExactReadTamperUptoRow, standIns := [], harness := (true, "bc3f367a046406f4d030614771dce912bcb7757137ba0b4af65ebcea413e67ed"), looks := false }, kinds := [], alts := [], laidByText := true, laidKinds := [.data, .data, .data, .data, .pinned], laidTests := true, laidLooks := .later }
def FnExactReadTamperUptoCardSaid : Prop := Claim7.holds Tryd.pinned (.plain (OpenSpec.upto fnExactReadTamperSpec)) fnExactReadTamperUptoCard
end Rows
end Go.Proofs.YtcfabmmonoljeaaDoor
