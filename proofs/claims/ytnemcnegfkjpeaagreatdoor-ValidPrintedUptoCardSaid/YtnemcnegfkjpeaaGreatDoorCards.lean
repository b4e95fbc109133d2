/-
  DERIVED. GIVEN WITH THE SEED: THE CARDS: each row of YtnemcnegfkjpeaaGreatDoorRows.lean that lists a variable, with what it lists TIED to the program's text (the seventh form; the later family's looks); each row that meets fmt, with fmt's text TOLD by the authors' own Lean function (tested against real Go, not proved from fmt's source: count such statements apart). THE CARD IS WHAT COUNTS. Prove the row's statement (the work); the ties are given (YtnemcnegfkjpeaaGreatDoorTie.lean); close each card by the builder's one call (the guide's Derived/Test/ToyasCard.lean, 'card_holds'). Laid BY PROGRAM, IN A SANDBOX (cutbox-door.mjs). By AI agents, Wed Nov 11 2026. No macro, syntax, notation, axiom, sorry.
-/
import Derived.Test.YtnemcnegfkjpeaaGreatDoorRows
import GoSem.ClaimSeven
namespace Go.Proofs.YtnemcnegfkjpeaaGreatDoor
namespace Rows

/-- THE TIED CARD OF 'seinelaw20.ValidPrinted'. -/
def validPrintedCard : Claim7 := { stood := { row := validPrintedRow, standIns := [], harness := (true, "180bc381e83c77094076e6de3de3438f26fbbbef920e0fa50604132d70f803db"), looks := true }, kinds := [], alts := [], laidByText := true, laidKinds := [.data, .data, .data, .data, .sentinel, .sentinel, .pinned], laidTests := true, laidLooks := .later }
def ValidPrintedCardSaid : Prop := Claim7.holds Tryz.pinned (.plain (OpenSpec.ofChange validPrintedSpec)) validPrintedCard

/-- THE SECOND FORM's CARD OF 'seinelaw20.ValidPrinted'. -/
def validPrintedUptoCard : Claim7 := { stood := { row := validPrintedUptoRow, standIns := [], harness := (true, "180bc381e83c77094076e6de3de3438f26fbbbef920e0fa50604132d70f803db"), looks := true }, kinds := [], alts := [], laidByText := true, laidKinds := [.data, .data, .data, .data, .sentinel, .sentinel, .pinned], laidTests := true, laidLooks := .later }
def ValidPrintedUptoCardSaid : Prop := Claim7.holds Tryz.pinned (.plain (OpenSpec.upto validPrintedSpec)) validPrintedUptoCard
end Rows
end Go.Proofs.YtnemcnegfkjpeaaGreatDoor
