/-
  DERIVED. GIVEN WITH THE SEED: THE CARDS: each row of YtaielcdfcgpbiaaGreatDoorRows.lean that lists a variable, with what it lists TIED to the program's text (the seventh form; the later family's looks); each row that meets fmt, with fmt's text TOLD by the authors' own Lean function (tested against real Go, not proved from fmt's source: count such statements apart). THE CARD IS WHAT COUNTS. Prove the row's statement (the work); the ties are given (YtaielcdfcgpbiaaGreatDoorTie.lean); close each card by the builder's one call (the guide's Derived/Test/ToyasCard.lean, 'card_holds'). Laid BY PROGRAM, IN A SANDBOX (cutbox-door.mjs). By AI agents, Wed Nov 11 2026. No macro, syntax, notation, axiom, sorry.
-/
import Derived.Test.YtaielcdfcgpbiaaGreatDoorRows
import GoSem.ClaimSeven
namespace Go.Proofs.YtaielcdfcgpbiaaGreatDoor
namespace Rows

/-- THE TIED CARD OF 'seinelaw6.ParseValues'. -/
def parseValuesCard : Claim7 := { stood := { row := parseValuesRow, standIns := [], harness := (true, "126c240a3ebafd4592944e36fe4f19b6bc508d7142da5c0fe46af57358744558"), looks := true }, kinds := [], alts := [], laidByText := true, laidKinds := [.data, .data, .data, .data, .sentinel, .sentinel, .pinned], laidTests := true, laidLooks := .later }
def ParseValuesCardSaid : Prop := Claim7.holds Tryz.pinned (.plain (OpenSpec.ofChange parseValuesSpec)) parseValuesCard

/-- THE TIED CARD OF 'seinelaw8.SdlReads'. -/
def sdlReadsCard : Claim7 := { stood := { row := sdlReadsRow, standIns := [], harness := (true, "126c240a3ebafd4592944e36fe4f19b6bc508d7142da5c0fe46af57358744558"), looks := true }, kinds := [], alts := [], laidByText := true, laidKinds := [.data, .data, .data, .data, .sentinel, .sentinel, .pinned], laidTests := true, laidLooks := .later }
def SdlReadsCardSaid : Prop := Claim7.holds Tryz.pinned (.plain (OpenSpec.ofChange sdlReadsSpec)) sdlReadsCard

/-- THE TIED CARD OF 'seinelaw8.SdlJoins'. -/
def sdlJoinsCard : Claim7 := { stood := { row := sdlJoinsRow, standIns := [], harness := (true, "126c240a3ebafd4592944e36fe4f19b6bc508d7142da5c0fe46af57358744558"), looks := true }, kinds := [], alts := [], laidByText := true, laidKinds := [.data, .data, .data, .data, .sentinel, .sentinel, .pinned], laidTests := true, laidLooks := .later }
def SdlJoinsCardSaid : Prop := Claim7.holds Tryz.pinned (.plain (OpenSpec.ofChange sdlJoinsSpec)) sdlJoinsCard

/-- THE TIED CARD OF 'seinelaw8.SdlRoots'. -/
def sdlRootsCard : Claim7 := { stood := { row := sdlRootsRow, standIns := [], harness := (true, "126c240a3ebafd4592944e36fe4f19b6bc508d7142da5c0fe46af57358744558"), looks := true }, kinds := [], alts := [], laidByText := true, laidKinds := [.data, .data, .data, .data, .sentinel, .sentinel, .pinned], laidTests := true, laidLooks := .later }
def SdlRootsCardSaid : Prop := Claim7.holds Tryz.pinned (.plain (OpenSpec.ofChange sdlRootsSpec)) sdlRootsCard

/-- THE TIED CARD OF 'seinelaw8.SdlPrints'. -/
def sdlPrintsCard : Claim7 := { stood := { row := sdlPrintsRow, standIns := [], harness := (true, "126c240a3ebafd4592944e36fe4f19b6bc508d7142da5c0fe46af57358744558"), looks := true }, kinds := [], alts := [], laidByText := true, laidKinds := [.data, .data, .data, .data, .sentinel, .sentinel, .pinned], laidTests := true, laidLooks := .later }
def SdlPrintsCardSaid : Prop := Claim7.holds Tryz.pinned (.plain (OpenSpec.ofChange sdlPrintsSpec)) sdlPrintsCard

/-- THE TIED CARD OF 'seinelaw8.SdlBack'. -/
def sdlBackCard : Claim7 := { stood := { row := sdlBackRow, standIns := [], harness := (true, "126c240a3ebafd4592944e36fe4f19b6bc508d7142da5c0fe46af57358744558"), looks := true }, kinds := [], alts := [], laidByText := true, laidKinds := [.data, .data, .data, .data, .sentinel, .sentinel, .pinned], laidTests := true, laidLooks := .later }
def SdlBackCardSaid : Prop := Claim7.holds Tryz.pinned (.plain (OpenSpec.ofChange sdlBackSpec)) sdlBackCard

/-- THE TIED CARD OF 'seinelaw8.SdlOnce'. -/
def sdlOnceCard : Claim7 := { stood := { row := sdlOnceRow, standIns := [], harness := (true, "126c240a3ebafd4592944e36fe4f19b6bc508d7142da5c0fe46af57358744558"), looks := true }, kinds := [], alts := [], laidByText := true, laidKinds := [.data, .data, .data, .data, .sentinel, .sentinel, .pinned], laidTests := true, laidLooks := .later }
def SdlOnceCardSaid : Prop := Claim7.holds Tryz.pinned (.plain (OpenSpec.ofChange sdlOnceSpec)) sdlOnceCard

/-- THE SECOND FORM's CARD OF 'seinelaw6.ParseValues'. -/
def parseValuesUptoCard : Claim7 := { stood := { row := parseValuesUptoRow, standIns := [], harness := (true, "126c240a3ebafd4592944e36fe4f19b6bc508d7142da5c0fe46af57358744558"), looks := true }, kinds := [], alts := [], laidByText := true, laidKinds := [.data, .data, .data, .data, .sentinel, .sentinel, .pinned], laidTests := true, laidLooks := .later }
def ParseValuesUptoCardSaid : Prop := Claim7.holds Tryz.pinned (.plain (OpenSpec.upto parseValuesSpec)) parseValuesUptoCard

/-- THE SECOND FORM's CARD OF 'seinelaw8.SdlReads'. -/
def sdlReadsUptoCard : Claim7 := { stood := { row := sdlReadsUptoRow, standIns := [], harness := (true, "126c240a3ebafd4592944e36fe4f19b6bc508d7142da5c0fe46af57358744558"), looks := true }, kinds := [], alts := [], laidByText := true, laidKinds := [.data, .data, .data, .data, .sentinel, .sentinel, .pinned], laidTests := true, laidLooks := .later }
def SdlReadsUptoCardSaid : Prop := Claim7.holds Tryz.pinned (.plain (OpenSpec.upto sdlReadsSpec)) sdlReadsUptoCard

/-- THE SECOND FORM's CARD OF 'seinelaw8.SdlJoins'. -/
def sdlJoinsUptoCard : Claim7 := { stood := { row := sdlJoinsUptoRow, standIns := [], harness := (true, "126c240a3ebafd4592944e36fe4f19b6bc508d7142da5c0fe46af57358744558"), looks := true }, kinds := [], alts := [], laidByText := true, laidKinds := [.data, .data, .data, .data, .sentinel, .sentinel, .pinned], laidTests := true, laidLooks := .later }
def SdlJoinsUptoCardSaid : Prop := Claim7.holds Tryz.pinned (.plain (OpenSpec.upto sdlJoinsSpec)) sdlJoinsUptoCard

/-- THE SECOND FORM's CARD OF 'seinelaw8.SdlRoots'. -/
def sdlRootsUptoCard : Claim7 := { stood := { row := sdlRootsUptoRow, standIns := [], harness := (true, "126c240a3ebafd4592944e36fe4f19b6bc508d7142da5c0fe46af57358744558"), looks := true }, kinds := [], alts := [], laidByText := true, laidKinds := [.data, .data, .data, .data, .sentinel, .sentinel, .pinned], laidTests := true, laidLooks := .later }
def SdlRootsUptoCardSaid : Prop := Claim7.holds Tryz.pinned (.plain (OpenSpec.upto sdlRootsSpec)) sdlRootsUptoCard

/-- THE SECOND FORM's CARD OF 'seinelaw8.SdlPrints'. -/
def sdlPrintsUptoCard : Claim7 := { stood := { row := sdlPrintsUptoRow, standIns := [], harness := (true, "126c240a3ebafd4592944e36fe4f19b6bc508d7142da5c0fe46af57358744558"), looks := true }, kinds := [], alts := [], laidByText := true, laidKinds := [.data, .data, .data, .data, .sentinel, .sentinel, .pinned], laidTests := true, laidLooks := .later }
def SdlPrintsUptoCardSaid : Prop := Claim7.holds Tryz.pinned (.plain (OpenSpec.upto sdlPrintsSpec)) sdlPrintsUptoCard

/-- THE SECOND FORM's CARD OF 'seinelaw8.SdlBack'. -/
def sdlBackUptoCard : Claim7 := { stood := { row := sdlBackUptoRow, standIns := [], harness := (true, "126c240a3ebafd4592944e36fe4f19b6bc508d7142da5c0fe46af57358744558"), looks := true }, kinds := [], alts := [], laidByText := true, laidKinds := [.data, .data, .data, .data, .sentinel, .sentinel, .pinned], laidTests := true, laidLooks := .later }
def SdlBackUptoCardSaid : Prop := Claim7.holds Tryz.pinned (.plain (OpenSpec.upto sdlBackSpec)) sdlBackUptoCard

/-- THE SECOND FORM's CARD OF 'seinelaw8.SdlOnce'. -/
def sdlOnceUptoCard : Claim7 := { stood := { row := sdlOnceUptoRow, standIns := [], harness := (true, "126c240a3ebafd4592944e36fe4f19b6bc508d7142da5c0fe46af57358744558"), looks := true }, kinds := [], alts := [], laidByText := true, laidKinds := [.data, .data, .data, .data, .sentinel, .sentinel, .pinned], laidTests := true, laidLooks := .later }
def SdlOnceUptoCardSaid : Prop := Claim7.holds Tryz.pinned (.plain (OpenSpec.upto sdlOnceSpec)) sdlOnceUptoCard
end Rows
end Go.Proofs.YtaielcdfcgpbiaaGreatDoor
