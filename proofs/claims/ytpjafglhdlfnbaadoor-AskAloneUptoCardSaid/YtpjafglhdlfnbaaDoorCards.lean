/-
  DERIVED. GIVEN WITH THE SEED: THE CARDS: each row of YtpjafglhdlfnbaaDoorRows.lean that lists a variable, with what it lists TIED to the program's text (the seventh form; the later family's looks); each row that meets fmt, with fmt's text TOLD by the authors' own Lean function (tested against real Go, not proved from fmt's source: count such statements apart). THE CARD IS WHAT COUNTS. Prove the row's statement (the work); the ties are given (YtpjafglhdlfnbaaDoorTie.lean); close each card by the builder's one call (the guide's Derived/Test/ToyasCard.lean, 'card_holds'). Laid BY PROGRAM, IN A SANDBOX (cutbox-door.mjs). By AI agents, Wed Nov 11 2026. No macro, syntax, notation, axiom, sorry.
-/
import Derived.Test.YtpjafglhdlfnbaaDoorRows
import GoSem.ClaimSeven
namespace Go.Proofs.YtpjafglhdlfnbaaDoor
namespace Rows

/-- THE TIED CARD OF 'seinelaw5.ValueGets'. -/
def valueGetsCard : Claim7 := { stood := { row := valueGetsRow, standIns := [], harness := (true, "0303801ff20f0c7c1a2a616063c5f3433c473cbd5b2c99535b19c43422424ee5"), looks := true }, kinds := [], alts := [], laidByText := true, laidKinds := [.data, .data, .data, .data, .sentinel, .sentinel, .pinned], laidTests := true, laidLooks := .later }
def ValueGetsCardSaid : Prop := Claim7.holds Tryd.pinned (.plain (OpenSpec.ofChange valueGetsSpec)) valueGetsCard

/-- THE TIED CARD OF 'seinelaw5.ValueSames'. -/
def valueSamesCard : Claim7 := { stood := { row := valueSamesRow, standIns := [], harness := (true, "0303801ff20f0c7c1a2a616063c5f3433c473cbd5b2c99535b19c43422424ee5"), looks := true }, kinds := [], alts := [], laidByText := true, laidKinds := [.data, .data, .data, .data, .sentinel, .sentinel, .pinned], laidTests := true, laidLooks := .later }
def ValueSamesCardSaid : Prop := Claim7.holds Tryd.pinned (.plain (OpenSpec.ofChange valueSamesSpec)) valueSamesCard

/-- THE TIED CARD OF 'seinelaw5.ValueUnlike'. -/
def valueUnlikeCard : Claim7 := { stood := { row := valueUnlikeRow, standIns := [], harness := (true, "0303801ff20f0c7c1a2a616063c5f3433c473cbd5b2c99535b19c43422424ee5"), looks := true }, kinds := [], alts := [], laidByText := true, laidKinds := [.data, .data, .data, .data, .sentinel, .sentinel, .pinned], laidTests := true, laidLooks := .later }
def ValueUnlikeCardSaid : Prop := Claim7.holds Tryd.pinned (.plain (OpenSpec.ofChange valueUnlikeSpec)) valueUnlikeCard

/-- THE TIED CARD OF 'seinelaw5.ValueSays'. -/
def valueSaysCard : Claim7 := { stood := { row := valueSaysRow, standIns := [], harness := (true, "0303801ff20f0c7c1a2a616063c5f3433c473cbd5b2c99535b19c43422424ee5"), looks := true }, kinds := [], alts := [], laidByText := true, laidKinds := [.data, .data, .data, .data, .sentinel, .sentinel, .pinned], laidTests := true, laidLooks := .later }
def ValueSaysCardSaid : Prop := Claim7.holds Tryd.pinned (.plain (OpenSpec.ofChange valueSaysSpec)) valueSaysCard

/-- THE TIED CARD OF 'seinelaw5.ValueLists'. -/
def valueListsCard : Claim7 := { stood := { row := valueListsRow, standIns := [], harness := (true, "0303801ff20f0c7c1a2a616063c5f3433c473cbd5b2c99535b19c43422424ee5"), looks := true }, kinds := [], alts := [], laidByText := true, laidKinds := [.data, .data, .data, .data, .sentinel, .sentinel, .pinned], laidTests := true, laidLooks := .later }
def ValueListsCardSaid : Prop := Claim7.holds Tryd.pinned (.plain (OpenSpec.ofChange valueListsSpec)) valueListsCard

/-- THE TIED CARD OF 'seinelaw22.AskPicks'. -/
def askPicksCard : Claim7 := { stood := { row := askPicksRow, standIns := [], harness := (true, "0303801ff20f0c7c1a2a616063c5f3433c473cbd5b2c99535b19c43422424ee5"), looks := true }, kinds := [], alts := [], laidByText := true, laidKinds := [.data, .data, .data, .data, .sentinel, .sentinel, .pinned], laidTests := true, laidLooks := .later }
def AskPicksCardSaid : Prop := Claim7.holds Tryd.pinned (.plain (OpenSpec.ofChange askPicksSpec)) askPicksCard

/-- THE TIED CARD OF 'seinelaw22.AskAlone'. -/
def askAloneCard : Claim7 := { stood := { row := askAloneRow, standIns := [], harness := (true, "0303801ff20f0c7c1a2a616063c5f3433c473cbd5b2c99535b19c43422424ee5"), looks := true }, kinds := [], alts := [], laidByText := true, laidKinds := [.data, .data, .data, .data, .sentinel, .sentinel, .pinned], laidTests := true, laidLooks := .later }
def AskAloneCardSaid : Prop := Claim7.holds Tryd.pinned (.plain (OpenSpec.ofChange askAloneSpec)) askAloneCard

/-- THE TIED CARD OF 'seinelaw21.JsonTwice'. -/
def jsonTwiceCard : Claim7 := { stood := { row := jsonTwiceRow, standIns := [], harness := (true, "0303801ff20f0c7c1a2a616063c5f3433c473cbd5b2c99535b19c43422424ee5"), looks := true }, kinds := [], alts := [], laidByText := true, laidKinds := [.data, .data, .data, .data, .sentinel, .sentinel, .pinned], laidTests := true, laidLooks := .later }
def JsonTwiceCardSaid : Prop := Claim7.holds Tryd.pinned (.plain (OpenSpec.ofChange jsonTwiceSpec)) jsonTwiceCard

/-- THE TIED CARD OF 'seinelaw21.JsonLists'. -/
def jsonListsCard : Claim7 := { stood := { row := jsonListsRow, standIns := [], harness := (true, "0303801ff20f0c7c1a2a616063c5f3433c473cbd5b2c99535b19c43422424ee5"), looks := true }, kinds := [], alts := [], laidByText := true, laidKinds := [.data, .data, .data, .data, .sentinel, .sentinel, .pinned], laidTests := true, laidLooks := .later }
def JsonListsCardSaid : Prop := Claim7.holds Tryd.pinned (.plain (OpenSpec.ofChange jsonListsSpec)) jsonListsCard

/-- THE TIED CARD OF 'seinelaw21.JsonDeep'. -/
def jsonDeepCard : Claim7 := { stood := { row := jsonDeepRow, standIns := [], harness := (true, "0303801ff20f0c7c1a2a616063c5f3433c473cbd5b2c99535b19c43422424ee5"), looks := true }, kinds := [], alts := [], laidByText := true, laidKinds := [.data, .data, .data, .data, .sentinel, .sentinel, .pinned], laidTests := true, laidLooks := .later }
def JsonDeepCardSaid : Prop := Claim7.holds Tryd.pinned (.plain (OpenSpec.ofChange jsonDeepSpec)) jsonDeepCard

/-- THE TIED CARD OF 'seinelaw21.JsonOnce'. -/
def jsonOnceCard : Claim7 := { stood := { row := jsonOnceRow, standIns := [], harness := (true, "0303801ff20f0c7c1a2a616063c5f3433c473cbd5b2c99535b19c43422424ee5"), looks := true }, kinds := [], alts := [], laidByText := true, laidKinds := [.data, .data, .data, .data, .sentinel, .sentinel, .pinned], laidTests := true, laidLooks := .later }
def JsonOnceCardSaid : Prop := Claim7.holds Tryd.pinned (.plain (OpenSpec.ofChange jsonOnceSpec)) jsonOnceCard

/-- THE TIED CARD OF 'seinelaw22.AskBack'. -/
def askBackCard : Claim7 := { stood := { row := askBackRow, standIns := [], harness := (true, "0303801ff20f0c7c1a2a616063c5f3433c473cbd5b2c99535b19c43422424ee5"), looks := true }, kinds := [], alts := [], laidByText := true, laidKinds := [.data, .data, .data, .data, .sentinel, .sentinel, .pinned], laidTests := true, laidLooks := .later }
def AskBackCardSaid : Prop := Claim7.holds Tryd.pinned (.plain (OpenSpec.ofChange askBackSpec)) askBackCard

/-- THE TIED CARD OF 'seinelaw22.AskTypes'. -/
def askTypesCard : Claim7 := { stood := { row := askTypesRow, standIns := [], harness := (true, "0303801ff20f0c7c1a2a616063c5f3433c473cbd5b2c99535b19c43422424ee5"), looks := true }, kinds := [], alts := [], laidByText := true, laidKinds := [.data, .data, .data, .data, .sentinel, .sentinel, .pinned], laidTests := true, laidLooks := .later }
def AskTypesCardSaid : Prop := Claim7.holds Tryd.pinned (.plain (OpenSpec.ofChange askTypesSpec)) askTypesCard

/-- THE SECOND FORM's CARD OF 'seinelaw5.ValueGets'. -/
def valueGetsUptoCard : Claim7 := { stood := { row := valueGetsUptoRow, standIns := [], harness := (true, "0303801ff20f0c7c1a2a616063c5f3433c473cbd5b2c99535b19c43422424ee5"), looks := true }, kinds := [], alts := [], laidByText := true, laidKinds := [.data, .data, .data, .data, .sentinel, .sentinel, .pinned], laidTests := true, laidLooks := .later }
def ValueGetsUptoCardSaid : Prop := Claim7.holds Tryd.pinned (.plain (OpenSpec.upto valueGetsSpec)) valueGetsUptoCard

/-- THE SECOND FORM's CARD OF 'seinelaw5.ValueSames'. -/
def valueSamesUptoCard : Claim7 := { stood := { row := valueSamesUptoRow, standIns := [], harness := (true, "0303801ff20f0c7c1a2a616063c5f3433c473cbd5b2c99535b19c43422424ee5"), looks := true }, kinds := [], alts := [], laidByText := true, laidKinds := [.data, .data, .data, .data, .sentinel, .sentinel, .pinned], laidTests := true, laidLooks := .later }
def ValueSamesUptoCardSaid : Prop := Claim7.holds Tryd.pinned (.plain (OpenSpec.upto valueSamesSpec)) valueSamesUptoCard

/-- THE SECOND FORM's CARD OF 'seinelaw5.ValueUnlike'. -/
def valueUnlikeUptoCard : Claim7 := { stood := { row := valueUnlikeUptoRow, standIns := [], harness := (true, "0303801ff20f0c7c1a2a616063c5f3433c473cbd5b2c99535b19c43422424ee5"), looks := true }, kinds := [], alts := [], laidByText := true, laidKinds := [.data, .data, .data, .data, .sentinel, .sentinel, .pinned], laidTests := true, laidLooks := .later }
def ValueUnlikeUptoCardSaid : Prop := Claim7.holds Tryd.pinned (.plain (OpenSpec.upto valueUnlikeSpec)) valueUnlikeUptoCard

/-- THE SECOND FORM's CARD OF 'seinelaw5.ValueSays'. -/
def valueSaysUptoCard : Claim7 := { stood := { row := valueSaysUptoRow, standIns := [], harness := (true, "0303801ff20f0c7c1a2a616063c5f3433c473cbd5b2c99535b19c43422424ee5"), looks := true }, kinds := [], alts := [], laidByText := true, laidKinds := [.data, .data, .data, .data, .sentinel, .sentinel, .pinned], laidTests := true, laidLooks := .later }
def ValueSaysUptoCardSaid : Prop := Claim7.holds Tryd.pinned (.plain (OpenSpec.upto valueSaysSpec)) valueSaysUptoCard

/-- THE SECOND FORM's CARD OF 'seinelaw5.ValueLists'. -/
def valueListsUptoCard : Claim7 := { stood := { row := valueListsUptoRow, standIns := [], harness := (true, "0303801ff20f0c7c1a2a616063c5f3433c473cbd5b2c99535b19c43422424ee5"), looks := true }, kinds := [], alts := [], laidByText := true, laidKinds := [.data, .data, .data, .data, .sentinel, .sentinel, .pinned], laidTests := true, laidLooks := .later }
def ValueListsUptoCardSaid : Prop := Claim7.holds Tryd.pinned (.plain (OpenSpec.upto valueListsSpec)) valueListsUptoCard

/-- THE SECOND FORM's CARD OF 'seinelaw22.AskPicks'. -/
def askPicksUptoCard : Claim7 := { stood := { row := askPicksUptoRow, standIns := [], harness := (true, "0303801ff20f0c7c1a2a616063c5f3433c473cbd5b2c99535b19c43422424ee5"), looks := true }, kinds := [], alts := [], laidByText := true, laidKinds := [.data, .data, .data, .data, .sentinel, .sentinel, .pinned], laidTests := true, laidLooks := .later }
def AskPicksUptoCardSaid : Prop := Claim7.holds Tryd.pinned (.plain (OpenSpec.upto askPicksSpec)) askPicksUptoCard

/-- THE SECOND FORM's CARD OF 'seinelaw22.AskAlone'. -/
def askAloneUptoCard : Claim7 := { stood := { row := askAloneUptoRow, standIns := [], harness := (true, "0303801ff20f0c7c1a2a616063c5f3433c473cbd5b2c99535b19c43422424ee5"), looks := true }, kinds := [], alts := [], laidByText := true, laidKinds := [.data, .data, .data, .data, .sentinel, .sentinel, .pinned], laidTests := true, laidLooks := .later }
def AskAloneUptoCardSaid : Prop := Claim7.holds Tryd.pinned (.plain (OpenSpec.upto askAloneSpec)) askAloneUptoCard

/-- THE SECOND FORM's CARD OF 'seinelaw21.JsonTwice'. -/
def jsonTwiceUptoCard : Claim7 := { stood := { row := jsonTwiceUptoRow, standIns := [], harness := (true, "0303801ff20f0c7c1a2a616063c5f3433c473cbd5b2c99535b19c43422424ee5"), looks := true }, kinds := [], alts := [], laidByText := true, laidKinds := [.data, .data, .data, .data, .sentinel, .sentinel, .pinned], laidTests := true, laidLooks := .later }
def JsonTwiceUptoCardSaid : Prop := Claim7.holds Tryd.pinned (.plain (OpenSpec.upto jsonTwiceSpec)) jsonTwiceUptoCard

/-- THE SECOND FORM's CARD OF 'seinelaw21.JsonLists'. -/
def jsonListsUptoCard : Claim7 := { stood := { row := jsonListsUptoRow, standIns := [], harness := (true, "0303801ff20f0c7c1a2a616063c5f3433c473cbd5b2c99535b19c43422424ee5"), looks := true }, kinds := [], alts := [], laidByText := true, laidKinds := [.data, .data, .data, .data, .sentinel, .sentinel, .pinned], laidTests := true, laidLooks := .later }
def JsonListsUptoCardSaid : Prop := Claim7.holds Tryd.pinned (.plain (OpenSpec.upto jsonListsSpec)) jsonListsUptoCard

/-- THE SECOND FORM's CARD OF 'seinelaw21.JsonDeep'. -/
def jsonDeepUptoCard : Claim7 := { stood := { row := jsonDeepUptoRow, standIns := [], harness := (true, "0303801ff20f0c7c1a2a616063c5f3433c473cbd5b2c99535b19c43422424ee5"), looks := true }, kinds := [], alts := [], laidByText := true, laidKinds := [.data, .data, .data, .data, .sentinel, .sentinel, .pinned], laidTests := true, laidLooks := .later }
def JsonDeepUptoCardSaid : Prop := Claim7.holds Tryd.pinned (.plain (OpenSpec.upto jsonDeepSpec)) jsonDeepUptoCard

/-- THE SECOND FORM's CARD OF 'seinelaw21.JsonOnce'. -/
def jsonOnceUptoCard : Claim7 := { stood := { row := jsonOnceUptoRow, standIns := [], harness := (true, "0303801ff20f0c7c1a2a616063c5f3433c473cbd5b2c99535b19c43422424ee5"), looks := true }, kinds := [], alts := [], laidByText := true, laidKinds := [.data, .data, .data, .data, .sentinel, .sentinel, .pinned], laidTests := true, laidLooks := .later }
def JsonOnceUptoCardSaid : Prop := Claim7.holds Tryd.pinned (.plain (OpenSpec.upto jsonOnceSpec)) jsonOnceUptoCard

/-- THE SECOND FORM's CARD OF 'seinelaw22.AskBack'. -/
def askBackUptoCard : Claim7 := { stood := { row := askBackUptoRow, standIns := [], harness := (true, "0303801ff20f0c7c1a2a616063c5f3433c473cbd5b2c99535b19c43422424ee5"), looks := true }, kinds := [], alts := [], laidByText := true, laidKinds := [.data, .data, .data, .data, .sentinel, .sentinel, .pinned], laidTests := true, laidLooks := .later }
def AskBackUptoCardSaid : Prop := Claim7.holds Tryd.pinned (.plain (OpenSpec.upto askBackSpec)) askBackUptoCard

/-- THE SECOND FORM's CARD OF 'seinelaw22.AskTypes'. -/
def askTypesUptoCard : Claim7 := { stood := { row := askTypesUptoRow, standIns := [], harness := (true, "0303801ff20f0c7c1a2a616063c5f3433c473cbd5b2c99535b19c43422424ee5"), looks := true }, kinds := [], alts := [], laidByText := true, laidKinds := [.data, .data, .data, .data, .sentinel, .sentinel, .pinned], laidTests := true, laidLooks := .later }
def AskTypesUptoCardSaid : Prop := Claim7.holds Tryd.pinned (.plain (OpenSpec.upto askTypesSpec)) askTypesUptoCard
end Rows
end Go.Proofs.YtpjafglhdlfnbaaDoor
