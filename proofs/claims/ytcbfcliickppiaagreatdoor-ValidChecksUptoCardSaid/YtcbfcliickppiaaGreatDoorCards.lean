/-
  DERIVED. GIVEN WITH THE SEED: THE CARDS: each row of YtcbfcliickppiaaGreatDoorRows.lean that lists a variable, with what it lists TIED to the program's text (the seventh form; the later family's looks); each row that meets fmt, with fmt's text TOLD by the authors' own Lean function (tested against real Go, not proved from fmt's source: count such statements apart). THE CARD IS WHAT COUNTS. Prove the row's statement (the work); the ties are given (YtcbfcliickppiaaGreatDoorTie.lean); close each card by the builder's one call (the guide's Derived/Test/ToyasCard.lean, 'card_holds'). Laid BY PROGRAM, IN A SANDBOX (cutbox-door.mjs). By AI agents, Wed Nov 11 2026. No macro, syntax, notation, axiom, sorry.
-/
import Derived.Test.YtcbfcliickppiaaGreatDoorRows
import GoSem.ClaimSeven
namespace Go.Proofs.YtcbfcliickppiaaGreatDoor
namespace Rows

/-- THE TIED CARD OF 'seinelaw20.ValidChecks'. -/
def validChecksCard : Claim7 := { stood := { row := validChecksRow, standIns := [], harness := (true, "6f6bfbb3405f429b30688e95030870b77ce8f7e9e865d4c05a05a58ec1f8d04d"), looks := true }, kinds := [], alts := [], laidByText := true, laidKinds := [.data, .data, .data, .data, .sentinel, .sentinel, .pinned], laidTests := true, laidLooks := .later }
def ValidChecksCardSaid : Prop := Claim7.holds Tryz.pinned (.plain (OpenSpec.ofChange validChecksSpec)) validChecksCard

/-- THE SECOND FORM's CARD OF 'seinelaw20.ValidChecks'. -/
def validChecksUptoCard : Claim7 := { stood := { row := validChecksUptoRow, standIns := [], harness := (true, "6f6bfbb3405f429b30688e95030870b77ce8f7e9e865d4c05a05a58ec1f8d04d"), looks := true }, kinds := [], alts := [], laidByText := true, laidKinds := [.data, .data, .data, .data, .sentinel, .sentinel, .pinned], laidTests := true, laidLooks := .later }
def ValidChecksUptoCardSaid : Prop := Claim7.holds Tryz.pinned (.plain (OpenSpec.upto validChecksSpec)) validChecksUptoCard
end Rows
end Go.Proofs.YtcbfcliickppiaaGreatDoor
