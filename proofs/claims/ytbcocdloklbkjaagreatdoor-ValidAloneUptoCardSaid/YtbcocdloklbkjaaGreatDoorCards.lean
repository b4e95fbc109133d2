/-
  DERIVED. GIVEN WITH THE SEED: THE CARDS: each row of YtbcocdloklbkjaaGreatDoorRows.lean that lists a variable, with what it lists TIED to the program's text (the seventh form; the later family's looks); each row that meets fmt, with fmt's text TOLD by the authors' own Lean function (tested against real Go, not proved from fmt's source: count such statements apart). THE CARD IS WHAT COUNTS. Prove the row's statement (the work); the ties are given (YtbcocdloklbkjaaGreatDoorTie.lean); close each card by the builder's one call (the guide's Derived/Test/ToyasCard.lean, 'card_holds'). Laid BY PROGRAM, IN A SANDBOX (cutbox-door.mjs). By AI agents, Wed Nov 11 2026. No macro, syntax, notation, axiom, sorry.
-/
import Derived.Test.YtbcocdloklbkjaaGreatDoorRows
import GoSem.ClaimSeven
namespace Go.Proofs.YtbcocdloklbkjaaGreatDoor
namespace Rows

/-- THE TIED CARD OF 'seinelaw20.ValidRules'. -/
def validRulesCard : Claim7 := { stood := { row := validRulesRow, standIns := [], harness := (true, "a5fb2dc82232e36f13a164bfbfa2e73a0e5052095dd2eec889d2146236e79567"), looks := true }, kinds := [], alts := [], laidByText := true, laidKinds := [.data, .data, .data, .data, .sentinel, .sentinel, .pinned], laidTests := true, laidLooks := .later }
def ValidRulesCardSaid : Prop := Claim7.holds Tryz.pinned (.plain (OpenSpec.ofChange validRulesSpec)) validRulesCard

/-- THE TIED CARD OF 'seinelaw20.ValidTurned'. -/
def validTurnedCard : Claim7 := { stood := { row := validTurnedRow, standIns := [], harness := (true, "a5fb2dc82232e36f13a164bfbfa2e73a0e5052095dd2eec889d2146236e79567"), looks := true }, kinds := [], alts := [], laidByText := true, laidKinds := [.data, .data, .data, .data, .sentinel, .sentinel, .pinned], laidTests := true, laidLooks := .later }
def ValidTurnedCardSaid : Prop := Claim7.holds Tryz.pinned (.plain (OpenSpec.ofChange validTurnedSpec)) validTurnedCard

/-- THE TIED CARD OF 'seinelaw20.ValidAlone'. -/
def validAloneCard : Claim7 := { stood := { row := validAloneRow, standIns := [], harness := (true, "a5fb2dc82232e36f13a164bfbfa2e73a0e5052095dd2eec889d2146236e79567"), looks := true }, kinds := [], alts := [], laidByText := true, laidKinds := [.data, .data, .data, .data, .sentinel, .sentinel, .pinned], laidTests := true, laidLooks := .later }
def ValidAloneCardSaid : Prop := Claim7.holds Tryz.pinned (.plain (OpenSpec.ofChange validAloneSpec)) validAloneCard

/-- THE SECOND FORM's CARD OF 'seinelaw20.ValidRules'. -/
def validRulesUptoCard : Claim7 := { stood := { row := validRulesUptoRow, standIns := [], harness := (true, "a5fb2dc82232e36f13a164bfbfa2e73a0e5052095dd2eec889d2146236e79567"), looks := true }, kinds := [], alts := [], laidByText := true, laidKinds := [.data, .data, .data, .data, .sentinel, .sentinel, .pinned], laidTests := true, laidLooks := .later }
def ValidRulesUptoCardSaid : Prop := Claim7.holds Tryz.pinned (.plain (OpenSpec.upto validRulesSpec)) validRulesUptoCard

/-- THE SECOND FORM's CARD OF 'seinelaw20.ValidTurned'. -/
def validTurnedUptoCard : Claim7 := { stood := { row := validTurnedUptoRow, standIns := [], harness := (true, "a5fb2dc82232e36f13a164bfbfa2e73a0e5052095dd2eec889d2146236e79567"), looks := true }, kinds := [], alts := [], laidByText := true, laidKinds := [.data, .data, .data, .data, .sentinel, .sentinel, .pinned], laidTests := true, laidLooks := .later }
def ValidTurnedUptoCardSaid : Prop := Claim7.holds Tryz.pinned (.plain (OpenSpec.upto validTurnedSpec)) validTurnedUptoCard

/-- THE SECOND FORM's CARD OF 'seinelaw20.ValidAlone'. -/
def validAloneUptoCard : Claim7 := { stood := { row := validAloneUptoRow, standIns := [], harness := (true, "a5fb2dc82232e36f13a164bfbfa2e73a0e5052095dd2eec889d2146236e79567"), looks := true }, kinds := [], alts := [], laidByText := true, laidKinds := [.data, .data, .data, .data, .sentinel, .sentinel, .pinned], laidTests := true, laidLooks := .later }
def ValidAloneUptoCardSaid : Prop := Claim7.holds Tryz.pinned (.plain (OpenSpec.upto validAloneSpec)) validAloneUptoCard
end Rows
end Go.Proofs.YtbcocdloklbkjaaGreatDoor
