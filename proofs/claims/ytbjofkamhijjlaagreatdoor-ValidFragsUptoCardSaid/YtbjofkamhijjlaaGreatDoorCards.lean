/-
  DERIVED. GIVEN WITH THE SEED: THE CARDS: each row of YtbjofkamhijjlaaGreatDoorRows.lean that lists a variable, with what it lists TIED to the program's text (the seventh form; the later family's looks); each row that meets fmt, with fmt's text TOLD by the authors' own Lean function (tested against real Go, not proved from fmt's source: count such statements apart). THE CARD IS WHAT COUNTS. Prove the row's statement (the work); the ties are given (YtbjofkamhijjlaaGreatDoorTie.lean); close each card by the builder's one call (the guide's Derived/Test/ToyasCard.lean, 'card_holds'). Laid BY PROGRAM, IN A SANDBOX (cutbox-door.mjs). By AI agents, Wed Nov 11 2026. No macro, syntax, notation, axiom, sorry.
-/
import Derived.Test.YtbjofkamhijjlaaGreatDoorRows
import GoSem.ClaimSeven
namespace Go.Proofs.YtbjofkamhijjlaaGreatDoor
namespace Rows

/-- THE TIED CARD OF 'seinelaw20.ValidFrags'. -/
def validFragsCard : Claim7 := { stood := { row := validFragsRow, standIns := [], harness := (true, "7313b96a847c0c596a0f4ae47bb6c1f4135c3a7fd3513f2dda361bb9844a6f7f"), looks := true }, kinds := [], alts := [], laidByText := true, laidKinds := [.data, .data, .data, .data, .sentinel, .sentinel, .pinned], laidTests := true, laidLooks := .later }
def ValidFragsCardSaid : Prop := Claim7.holds Tryz.pinned (.plain (OpenSpec.ofChange validFragsSpec)) validFragsCard

/-- THE SECOND FORM's CARD OF 'seinelaw20.ValidFrags'. -/
def validFragsUptoCard : Claim7 := { stood := { row := validFragsUptoRow, standIns := [], harness := (true, "7313b96a847c0c596a0f4ae47bb6c1f4135c3a7fd3513f2dda361bb9844a6f7f"), looks := true }, kinds := [], alts := [], laidByText := true, laidKinds := [.data, .data, .data, .data, .sentinel, .sentinel, .pinned], laidTests := true, laidLooks := .later }
def ValidFragsUptoCardSaid : Prop := Claim7.holds Tryz.pinned (.plain (OpenSpec.upto validFragsSpec)) validFragsUptoCard
end Rows
end Go.Proofs.YtbjofkamhijjlaaGreatDoor
