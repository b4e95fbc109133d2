/-
  DERIVED. GIVEN WITH THE SEED: THE CARDS: each row of YticbbfbpeimkbaaGreatDoorRows.lean that lists a variable, with what it lists TIED to the program's text (the seventh form; the later family's looks); each row that meets fmt, with fmt's text TOLD by the authors' own Lean function (tested against real Go, not proved from fmt's source: count such statements apart). THE CARD IS WHAT COUNTS. Prove the row's statement (the work); the ties are given (YticbbfbpeimkbaaGreatDoorTie.lean); close each card by the builder's one call (the guide's Derived/Test/ToyasCard.lean, 'card_holds'). Laid BY PROGRAM, IN A SANDBOX (cutbox-door.mjs). By AI agents, Wed Nov 11 2026. No macro, syntax, notation, axiom, sorry.
-/
import Derived.Test.YticbbfbpeimkbaaGreatDoorRows
import GoSem.ClaimSeven
namespace Go.Proofs.YticbbfbpeimkbaaGreatDoor
namespace Rows

/-- THE TIED CARD OF 'seinelaw7.PrintSays'. -/
def printSaysCard : Claim7 := { stood := { row := printSaysRow, standIns := [], harness := (true, "a7ffcab88a9f01998031129df32244f009c73b009b9fcdc5cbcc99a625a236fe"), looks := true }, kinds := [], alts := [], laidByText := true, laidKinds := [.data, .data, .data, .data, .sentinel, .sentinel, .pinned], laidTests := true, laidLooks := .later }
def PrintSaysCardSaid : Prop := Claim7.holds Tryz.pinned (.plain (OpenSpec.ofChange printSaysSpec)) printSaysCard

/-- THE TIED CARD OF 'seinelaw7.PrintParts'. -/
def printPartsCard : Claim7 := { stood := { row := printPartsRow, standIns := [], harness := (true, "a7ffcab88a9f01998031129df32244f009c73b009b9fcdc5cbcc99a625a236fe"), looks := true }, kinds := [], alts := [], laidByText := true, laidKinds := [.data, .data, .data, .data, .sentinel, .sentinel, .pinned], laidTests := true, laidLooks := .later }
def PrintPartsCardSaid : Prop := Claim7.holds Tryz.pinned (.plain (OpenSpec.ofChange printPartsSpec)) printPartsCard

/-- THE TIED CARD OF 'seinelaw7.PrintSels'. -/
def printSelsCard : Claim7 := { stood := { row := printSelsRow, standIns := [], harness := (true, "a7ffcab88a9f01998031129df32244f009c73b009b9fcdc5cbcc99a625a236fe"), looks := true }, kinds := [], alts := [], laidByText := true, laidKinds := [.data, .data, .data, .data, .sentinel, .sentinel, .pinned], laidTests := true, laidLooks := .later }
def PrintSelsCardSaid : Prop := Claim7.holds Tryz.pinned (.plain (OpenSpec.ofChange printSelsSpec)) printSelsCard

/-- THE TIED CARD OF 'seinelaw7.PrintSelsOf'. -/
def printSelsOfCard : Claim7 := { stood := { row := printSelsOfRow, standIns := [], harness := (true, "a7ffcab88a9f01998031129df32244f009c73b009b9fcdc5cbcc99a625a236fe"), looks := true }, kinds := [], alts := [], laidByText := true, laidKinds := [.data, .data, .data, .data, .sentinel, .sentinel, .pinned], laidTests := true, laidLooks := .later }
def PrintSelsOfCardSaid : Prop := Claim7.holds Tryz.pinned (.plain (OpenSpec.ofChange printSelsOfSpec)) printSelsOfCard

/-- THE TIED CARD OF 'seinelaw6.ParseReads'. -/
def parseReadsCard : Claim7 := { stood := { row := parseReadsRow, standIns := [], harness := (true, "a7ffcab88a9f01998031129df32244f009c73b009b9fcdc5cbcc99a625a236fe"), looks := true }, kinds := [], alts := [], laidByText := true, laidKinds := [.data, .data, .data, .data, .sentinel, .sentinel, .pinned], laidTests := true, laidLooks := .later }
def ParseReadsCardSaid : Prop := Claim7.holds Tryz.pinned (.plain (OpenSpec.ofChange parseReadsSpec)) parseReadsCard

/-- THE TIED CARD OF 'seinelaw6.ParseJoins'. -/
def parseJoinsCard : Claim7 := { stood := { row := parseJoinsRow, standIns := [], harness := (true, "a7ffcab88a9f01998031129df32244f009c73b009b9fcdc5cbcc99a625a236fe"), looks := true }, kinds := [], alts := [], laidByText := true, laidKinds := [.data, .data, .data, .data, .sentinel, .sentinel, .pinned], laidTests := true, laidLooks := .later }
def ParseJoinsCardSaid : Prop := Claim7.holds Tryz.pinned (.plain (OpenSpec.ofChange parseJoinsSpec)) parseJoinsCard

/-- THE TIED CARD OF 'seinelaw6.ParseValues'. -/
def parseValuesCard : Claim7 := { stood := { row := parseValuesRow, standIns := [], harness := (true, "a7ffcab88a9f01998031129df32244f009c73b009b9fcdc5cbcc99a625a236fe"), looks := true }, kinds := [], alts := [], laidByText := true, laidKinds := [.data, .data, .data, .data, .sentinel, .sentinel, .pinned], laidTests := true, laidLooks := .later }
def ParseValuesCardSaid : Prop := Claim7.holds Tryz.pinned (.plain (OpenSpec.ofChange parseValuesSpec)) parseValuesCard

/-- THE TIED CARD OF 'seinelaw6.ParseDeep'. -/
def parseDeepCard : Claim7 := { stood := { row := parseDeepRow, standIns := [], harness := (true, "a7ffcab88a9f01998031129df32244f009c73b009b9fcdc5cbcc99a625a236fe"), looks := true }, kinds := [], alts := [], laidByText := true, laidKinds := [.data, .data, .data, .data, .sentinel, .sentinel, .pinned], laidTests := true, laidLooks := .later }
def ParseDeepCardSaid : Prop := Claim7.holds Tryz.pinned (.plain (OpenSpec.ofChange parseDeepSpec)) parseDeepCard

/-- THE TIED CARD OF 'seinelaw8.SdlReads'. -/
def sdlReadsCard : Claim7 := { stood := { row := sdlReadsRow, standIns := [], harness := (true, "a7ffcab88a9f01998031129df32244f009c73b009b9fcdc5cbcc99a625a236fe"), looks := true }, kinds := [], alts := [], laidByText := true, laidKinds := [.data, .data, .data, .data, .sentinel, .sentinel, .pinned], laidTests := true, laidLooks := .later }
def SdlReadsCardSaid : Prop := Claim7.holds Tryz.pinned (.plain (OpenSpec.ofChange sdlReadsSpec)) sdlReadsCard

/-- THE TIED CARD OF 'seinelaw8.SdlJoins'. -/
def sdlJoinsCard : Claim7 := { stood := { row := sdlJoinsRow, standIns := [], harness := (true, "a7ffcab88a9f01998031129df32244f009c73b009b9fcdc5cbcc99a625a236fe"), looks := true }, kinds := [], alts := [], laidByText := true, laidKinds := [.data, .data, .data, .data, .sentinel, .sentinel, .pinned], laidTests := true, laidLooks := .later }
def SdlJoinsCardSaid : Prop := Claim7.holds Tryz.pinned (.plain (OpenSpec.ofChange sdlJoinsSpec)) sdlJoinsCard

/-- THE TIED CARD OF 'seinelaw5.ValueReads'. -/
def valueReadsCard : Claim7 := { stood := { row := valueReadsRow, standIns := [], harness := (true, "a7ffcab88a9f01998031129df32244f009c73b009b9fcdc5cbcc99a625a236fe"), looks := true }, kinds := [], alts := [], laidByText := true, laidKinds := [.data, .data, .data, .data, .sentinel, .sentinel, .pinned], laidTests := true, laidLooks := .later }
def ValueReadsCardSaid : Prop := Claim7.holds Tryz.pinned (.plain (OpenSpec.ofChange valueReadsSpec)) valueReadsCard

/-- THE TIED CARD OF 'seinelaw6.ParseTypes'. -/
def parseTypesCard : Claim7 := { stood := { row := parseTypesRow, standIns := [], harness := (true, "a7ffcab88a9f01998031129df32244f009c73b009b9fcdc5cbcc99a625a236fe"), looks := true }, kinds := [], alts := [], laidByText := true, laidKinds := [.data, .data, .data, .data, .sentinel, .sentinel, .pinned], laidTests := true, laidLooks := .later }
def ParseTypesCardSaid : Prop := Claim7.holds Tryz.pinned (.plain (OpenSpec.ofChange parseTypesSpec)) parseTypesCard

/-- THE TIED CARD OF 'seinelaw6.ParseTokens'. -/
def parseTokensCard : Claim7 := { stood := { row := parseTokensRow, standIns := [], harness := (true, "a7ffcab88a9f01998031129df32244f009c73b009b9fcdc5cbcc99a625a236fe"), looks := true }, kinds := [], alts := [], laidByText := true, laidKinds := [.data, .data, .data, .data, .sentinel, .sentinel, .pinned], laidTests := true, laidLooks := .later }
def ParseTokensCardSaid : Prop := Claim7.holds Tryz.pinned (.plain (OpenSpec.ofChange parseTokensSpec)) parseTokensCard

/-- THE TIED CARD OF 'seinelaw6.ParseEnds'. -/
def parseEndsCard : Claim7 := { stood := { row := parseEndsRow, standIns := [], harness := (true, "a7ffcab88a9f01998031129df32244f009c73b009b9fcdc5cbcc99a625a236fe"), looks := true }, kinds := [], alts := [], laidByText := true, laidKinds := [.data, .data, .data, .data, .sentinel, .sentinel, .pinned], laidTests := true, laidLooks := .later }
def ParseEndsCardSaid : Prop := Claim7.holds Tryz.pinned (.plain (OpenSpec.ofChange parseEndsSpec)) parseEndsCard

/-- THE TIED CARD OF 'seinelaw6.ParsePlain'. -/
def parsePlainCard : Claim7 := { stood := { row := parsePlainRow, standIns := [], harness := (true, "a7ffcab88a9f01998031129df32244f009c73b009b9fcdc5cbcc99a625a236fe"), looks := true }, kinds := [], alts := [], laidByText := true, laidKinds := [.data, .data, .data, .data, .sentinel, .sentinel, .pinned], laidTests := true, laidLooks := .later }
def ParsePlainCardSaid : Prop := Claim7.holds Tryz.pinned (.plain (OpenSpec.ofChange parsePlainSpec)) parsePlainCard

/-- THE TIED CARD OF 'seinelaw7.PrintBack'. -/
def printBackCard : Claim7 := { stood := { row := printBackRow, standIns := [], harness := (true, "a7ffcab88a9f01998031129df32244f009c73b009b9fcdc5cbcc99a625a236fe"), looks := true }, kinds := [], alts := [], laidByText := true, laidKinds := [.data, .data, .data, .data, .sentinel, .sentinel, .pinned], laidTests := true, laidLooks := .later }
def PrintBackCardSaid : Prop := Claim7.holds Tryz.pinned (.plain (OpenSpec.ofChange printBackSpec)) printBackCard

/-- THE TIED CARD OF 'seinelaw7.PrintOnce'. -/
def printOnceCard : Claim7 := { stood := { row := printOnceRow, standIns := [], harness := (true, "a7ffcab88a9f01998031129df32244f009c73b009b9fcdc5cbcc99a625a236fe"), looks := true }, kinds := [], alts := [], laidByText := true, laidKinds := [.data, .data, .data, .data, .sentinel, .sentinel, .pinned], laidTests := true, laidLooks := .later }
def PrintOnceCardSaid : Prop := Claim7.holds Tryz.pinned (.plain (OpenSpec.ofChange printOnceSpec)) printOnceCard

/-- THE TIED CARD OF 'seinelaw8.SdlRoots'. -/
def sdlRootsCard : Claim7 := { stood := { row := sdlRootsRow, standIns := [], harness := (true, "a7ffcab88a9f01998031129df32244f009c73b009b9fcdc5cbcc99a625a236fe"), looks := true }, kinds := [], alts := [], laidByText := true, laidKinds := [.data, .data, .data, .data, .sentinel, .sentinel, .pinned], laidTests := true, laidLooks := .later }
def SdlRootsCardSaid : Prop := Claim7.holds Tryz.pinned (.plain (OpenSpec.ofChange sdlRootsSpec)) sdlRootsCard

/-- THE TIED CARD OF 'seinelaw8.SdlPrints'. -/
def sdlPrintsCard : Claim7 := { stood := { row := sdlPrintsRow, standIns := [], harness := (true, "a7ffcab88a9f01998031129df32244f009c73b009b9fcdc5cbcc99a625a236fe"), looks := true }, kinds := [], alts := [], laidByText := true, laidKinds := [.data, .data, .data, .data, .sentinel, .sentinel, .pinned], laidTests := true, laidLooks := .later }
def SdlPrintsCardSaid : Prop := Claim7.holds Tryz.pinned (.plain (OpenSpec.ofChange sdlPrintsSpec)) sdlPrintsCard

/-- THE TIED CARD OF 'seinelaw8.SdlBack'. -/
def sdlBackCard : Claim7 := { stood := { row := sdlBackRow, standIns := [], harness := (true, "a7ffcab88a9f01998031129df32244f009c73b009b9fcdc5cbcc99a625a236fe"), looks := true }, kinds := [], alts := [], laidByText := true, laidKinds := [.data, .data, .data, .data, .sentinel, .sentinel, .pinned], laidTests := true, laidLooks := .later }
def SdlBackCardSaid : Prop := Claim7.holds Tryz.pinned (.plain (OpenSpec.ofChange sdlBackSpec)) sdlBackCard

/-- THE TIED CARD OF 'seinelaw8.SdlOnce'. -/
def sdlOnceCard : Claim7 := { stood := { row := sdlOnceRow, standIns := [], harness := (true, "a7ffcab88a9f01998031129df32244f009c73b009b9fcdc5cbcc99a625a236fe"), looks := true }, kinds := [], alts := [], laidByText := true, laidKinds := [.data, .data, .data, .data, .sentinel, .sentinel, .pinned], laidTests := true, laidLooks := .later }
def SdlOnceCardSaid : Prop := Claim7.holds Tryz.pinned (.plain (OpenSpec.ofChange sdlOnceSpec)) sdlOnceCard

/-- THE SECOND FORM's CARD OF 'seinelaw7.PrintSays'. -/
def printSaysUptoCard : Claim7 := { stood := { row := printSaysUptoRow, standIns := [], harness := (true, "a7ffcab88a9f01998031129df32244f009c73b009b9fcdc5cbcc99a625a236fe"), looks := true }, kinds := [], alts := [], laidByText := true, laidKinds := [.data, .data, .data, .data, .sentinel, .sentinel, .pinned], laidTests := true, laidLooks := .later }
def PrintSaysUptoCardSaid : Prop := Claim7.holds Tryz.pinned (.plain (OpenSpec.upto printSaysSpec)) printSaysUptoCard

/-- THE SECOND FORM's CARD OF 'seinelaw7.PrintParts'. -/
def printPartsUptoCard : Claim7 := { stood := { row := printPartsUptoRow, standIns := [], harness := (true, "a7ffcab88a9f01998031129df32244f009c73b009b9fcdc5cbcc99a625a236fe"), looks := true }, kinds := [], alts := [], laidByText := true, laidKinds := [.data, .data, .data, .data, .sentinel, .sentinel, .pinned], laidTests := true, laidLooks := .later }
def PrintPartsUptoCardSaid : Prop := Claim7.holds Tryz.pinned (.plain (OpenSpec.upto printPartsSpec)) printPartsUptoCard

/-- THE SECOND FORM's CARD OF 'seinelaw7.PrintSels'. -/
def printSelsUptoCard : Claim7 := { stood := { row := printSelsUptoRow, standIns := [], harness := (true, "a7ffcab88a9f01998031129df32244f009c73b009b9fcdc5cbcc99a625a236fe"), looks := true }, kinds := [], alts := [], laidByText := true, laidKinds := [.data, .data, .data, .data, .sentinel, .sentinel, .pinned], laidTests := true, laidLooks := .later }
def PrintSelsUptoCardSaid : Prop := Claim7.holds Tryz.pinned (.plain (OpenSpec.upto printSelsSpec)) printSelsUptoCard

/-- THE SECOND FORM's CARD OF 'seinelaw7.PrintSelsOf'. -/
def printSelsOfUptoCard : Claim7 := { stood := { row := printSelsOfUptoRow, standIns := [], harness := (true, "a7ffcab88a9f01998031129df32244f009c73b009b9fcdc5cbcc99a625a236fe"), looks := true }, kinds := [], alts := [], laidByText := true, laidKinds := [.data, .data, .data, .data, .sentinel, .sentinel, .pinned], laidTests := true, laidLooks := .later }
def PrintSelsOfUptoCardSaid : Prop := Claim7.holds Tryz.pinned (.plain (OpenSpec.upto printSelsOfSpec)) printSelsOfUptoCard

/-- THE SECOND FORM's CARD OF 'seinelaw6.ParseReads'. -/
def parseReadsUptoCard : Claim7 := { stood := { row := parseReadsUptoRow, standIns := [], harness := (true, "a7ffcab88a9f01998031129df32244f009c73b009b9fcdc5cbcc99a625a236fe"), looks := true }, kinds := [], alts := [], laidByText := true, laidKinds := [.data, .data, .data, .data, .sentinel, .sentinel, .pinned], laidTests := true, laidLooks := .later }
def ParseReadsUptoCardSaid : Prop := Claim7.holds Tryz.pinned (.plain (OpenSpec.upto parseReadsSpec)) parseReadsUptoCard

/-- THE SECOND FORM's CARD OF 'seinelaw6.ParseJoins'. -/
def parseJoinsUptoCard : Claim7 := { stood := { row := parseJoinsUptoRow, standIns := [], harness := (true, "a7ffcab88a9f01998031129df32244f009c73b009b9fcdc5cbcc99a625a236fe"), looks := true }, kinds := [], alts := [], laidByText := true, laidKinds := [.data, .data, .data, .data, .sentinel, .sentinel, .pinned], laidTests := true, laidLooks := .later }
def ParseJoinsUptoCardSaid : Prop := Claim7.holds Tryz.pinned (.plain (OpenSpec.upto parseJoinsSpec)) parseJoinsUptoCard

/-- THE SECOND FORM's CARD OF 'seinelaw6.ParseValues'. -/
def parseValuesUptoCard : Claim7 := { stood := { row := parseValuesUptoRow, standIns := [], harness := (true, "a7ffcab88a9f01998031129df32244f009c73b009b9fcdc5cbcc99a625a236fe"), looks := true }, kinds := [], alts := [], laidByText := true, laidKinds := [.data, .data, .data, .data, .sentinel, .sentinel, .pinned], laidTests := true, laidLooks := .later }
def ParseValuesUptoCardSaid : Prop := Claim7.holds Tryz.pinned (.plain (OpenSpec.upto parseValuesSpec)) parseValuesUptoCard

/-- THE SECOND FORM's CARD OF 'seinelaw6.ParseDeep'. -/
def parseDeepUptoCard : Claim7 := { stood := { row := parseDeepUptoRow, standIns := [], harness := (true, "a7ffcab88a9f01998031129df32244f009c73b009b9fcdc5cbcc99a625a236fe"), looks := true }, kinds := [], alts := [], laidByText := true, laidKinds := [.data, .data, .data, .data, .sentinel, .sentinel, .pinned], laidTests := true, laidLooks := .later }
def ParseDeepUptoCardSaid : Prop := Claim7.holds Tryz.pinned (.plain (OpenSpec.upto parseDeepSpec)) parseDeepUptoCard

/-- THE SECOND FORM's CARD OF 'seinelaw8.SdlReads'. -/
def sdlReadsUptoCard : Claim7 := { stood := { row := sdlReadsUptoRow, standIns := [], harness := (true, "a7ffcab88a9f01998031129df32244f009c73b009b9fcdc5cbcc99a625a236fe"), looks := true }, kinds := [], alts := [], laidByText := true, laidKinds := [.data, .data, .data, .data, .sentinel, .sentinel, .pinned], laidTests := true, laidLooks := .later }
def SdlReadsUptoCardSaid : Prop := Claim7.holds Tryz.pinned (.plain (OpenSpec.upto sdlReadsSpec)) sdlReadsUptoCard

/-- THE SECOND FORM's CARD OF 'seinelaw8.SdlJoins'. -/
def sdlJoinsUptoCard : Claim7 := { stood := { row := sdlJoinsUptoRow, standIns := [], harness := (true, "a7ffcab88a9f01998031129df32244f009c73b009b9fcdc5cbcc99a625a236fe"), looks := true }, kinds := [], alts := [], laidByText := true, laidKinds := [.data, .data, .data, .data, .sentinel, .sentinel, .pinned], laidTests := true, laidLooks := .later }
def SdlJoinsUptoCardSaid : Prop := Claim7.holds Tryz.pinned (.plain (OpenSpec.upto sdlJoinsSpec)) sdlJoinsUptoCard

/-- THE SECOND FORM's CARD OF 'seinelaw5.ValueReads'. -/
def valueReadsUptoCard : Claim7 := { stood := { row := valueReadsUptoRow, standIns := [], harness := (true, "a7ffcab88a9f01998031129df32244f009c73b009b9fcdc5cbcc99a625a236fe"), looks := true }, kinds := [], alts := [], laidByText := true, laidKinds := [.data, .data, .data, .data, .sentinel, .sentinel, .pinned], laidTests := true, laidLooks := .later }
def ValueReadsUptoCardSaid : Prop := Claim7.holds Tryz.pinned (.plain (OpenSpec.upto valueReadsSpec)) valueReadsUptoCard

/-- THE SECOND FORM's CARD OF 'seinelaw6.ParseTypes'. -/
def parseTypesUptoCard : Claim7 := { stood := { row := parseTypesUptoRow, standIns := [], harness := (true, "a7ffcab88a9f01998031129df32244f009c73b009b9fcdc5cbcc99a625a236fe"), looks := true }, kinds := [], alts := [], laidByText := true, laidKinds := [.data, .data, .data, .data, .sentinel, .sentinel, .pinned], laidTests := true, laidLooks := .later }
def ParseTypesUptoCardSaid : Prop := Claim7.holds Tryz.pinned (.plain (OpenSpec.upto parseTypesSpec)) parseTypesUptoCard

/-- THE SECOND FORM's CARD OF 'seinelaw6.ParseTokens'. -/
def parseTokensUptoCard : Claim7 := { stood := { row := parseTokensUptoRow, standIns := [], harness := (true, "a7ffcab88a9f01998031129df32244f009c73b009b9fcdc5cbcc99a625a236fe"), looks := true }, kinds := [], alts := [], laidByText := true, laidKinds := [.data, .data, .data, .data, .sentinel, .sentinel, .pinned], laidTests := true, laidLooks := .later }
def ParseTokensUptoCardSaid : Prop := Claim7.holds Tryz.pinned (.plain (OpenSpec.upto parseTokensSpec)) parseTokensUptoCard

/-- THE SECOND FORM's CARD OF 'seinelaw6.ParseEnds'. -/
def parseEndsUptoCard : Claim7 := { stood := { row := parseEndsUptoRow, standIns := [], harness := (true, "a7ffcab88a9f01998031129df32244f009c73b009b9fcdc5cbcc99a625a236fe"), looks := true }, kinds := [], alts := [], laidByText := true, laidKinds := [.data, .data, .data, .data, .sentinel, .sentinel, .pinned], laidTests := true, laidLooks := .later }
def ParseEndsUptoCardSaid : Prop := Claim7.holds Tryz.pinned (.plain (OpenSpec.upto parseEndsSpec)) parseEndsUptoCard

/-- THE SECOND FORM's CARD OF 'seinelaw6.ParsePlain'. -/
def parsePlainUptoCard : Claim7 := { stood := { row := parsePlainUptoRow, standIns := [], harness := (true, "a7ffcab88a9f01998031129df32244f009c73b009b9fcdc5cbcc99a625a236fe"), looks := true }, kinds := [], alts := [], laidByText := true, laidKinds := [.data, .data, .data, .data, .sentinel, .sentinel, .pinned], laidTests := true, laidLooks := .later }
def ParsePlainUptoCardSaid : Prop := Claim7.holds Tryz.pinned (.plain (OpenSpec.upto parsePlainSpec)) parsePlainUptoCard

/-- THE SECOND FORM's CARD OF 'seinelaw7.PrintBack'. -/
def printBackUptoCard : Claim7 := { stood := { row := printBackUptoRow, standIns := [], harness := (true, "a7ffcab88a9f01998031129df32244f009c73b009b9fcdc5cbcc99a625a236fe"), looks := true }, kinds := [], alts := [], laidByText := true, laidKinds := [.data, .data, .data, .data, .sentinel, .sentinel, .pinned], laidTests := true, laidLooks := .later }
def PrintBackUptoCardSaid : Prop := Claim7.holds Tryz.pinned (.plain (OpenSpec.upto printBackSpec)) printBackUptoCard

/-- THE SECOND FORM's CARD OF 'seinelaw7.PrintOnce'. -/
def printOnceUptoCard : Claim7 := { stood := { row := printOnceUptoRow, standIns := [], harness := (true, "a7ffcab88a9f01998031129df32244f009c73b009b9fcdc5cbcc99a625a236fe"), looks := true }, kinds := [], alts := [], laidByText := true, laidKinds := [.data, .data, .data, .data, .sentinel, .sentinel, .pinned], laidTests := true, laidLooks := .later }
def PrintOnceUptoCardSaid : Prop := Claim7.holds Tryz.pinned (.plain (OpenSpec.upto printOnceSpec)) printOnceUptoCard

/-- THE SECOND FORM's CARD OF 'seinelaw8.SdlRoots'. -/
def sdlRootsUptoCard : Claim7 := { stood := { row := sdlRootsUptoRow, standIns := [], harness := (true, "a7ffcab88a9f01998031129df32244f009c73b009b9fcdc5cbcc99a625a236fe"), looks := true }, kinds := [], alts := [], laidByText := true, laidKinds := [.data, .data, .data, .data, .sentinel, .sentinel, .pinned], laidTests := true, laidLooks := .later }
def SdlRootsUptoCardSaid : Prop := Claim7.holds Tryz.pinned (.plain (OpenSpec.upto sdlRootsSpec)) sdlRootsUptoCard

/-- THE SECOND FORM's CARD OF 'seinelaw8.SdlPrints'. -/
def sdlPrintsUptoCard : Claim7 := { stood := { row := sdlPrintsUptoRow, standIns := [], harness := (true, "a7ffcab88a9f01998031129df32244f009c73b009b9fcdc5cbcc99a625a236fe"), looks := true }, kinds := [], alts := [], laidByText := true, laidKinds := [.data, .data, .data, .data, .sentinel, .sentinel, .pinned], laidTests := true, laidLooks := .later }
def SdlPrintsUptoCardSaid : Prop := Claim7.holds Tryz.pinned (.plain (OpenSpec.upto sdlPrintsSpec)) sdlPrintsUptoCard

/-- THE SECOND FORM's CARD OF 'seinelaw8.SdlBack'. -/
def sdlBackUptoCard : Claim7 := { stood := { row := sdlBackUptoRow, standIns := [], harness := (true, "a7ffcab88a9f01998031129df32244f009c73b009b9fcdc5cbcc99a625a236fe"), looks := true }, kinds := [], alts := [], laidByText := true, laidKinds := [.data, .data, .data, .data, .sentinel, .sentinel, .pinned], laidTests := true, laidLooks := .later }
def SdlBackUptoCardSaid : Prop := Claim7.holds Tryz.pinned (.plain (OpenSpec.upto sdlBackSpec)) sdlBackUptoCard

/-- THE SECOND FORM's CARD OF 'seinelaw8.SdlOnce'. -/
def sdlOnceUptoCard : Claim7 := { stood := { row := sdlOnceUptoRow, standIns := [], harness := (true, "a7ffcab88a9f01998031129df32244f009c73b009b9fcdc5cbcc99a625a236fe"), looks := true }, kinds := [], alts := [], laidByText := true, laidKinds := [.data, .data, .data, .data, .sentinel, .sentinel, .pinned], laidTests := true, laidLooks := .later }
def SdlOnceUptoCardSaid : Prop := Claim7.holds Tryz.pinned (.plain (OpenSpec.upto sdlOnceSpec)) sdlOnceUptoCard
end Rows
end Go.Proofs.YticbbfbpeimkbaaGreatDoor
