/-
  DERIVED. GIVEN WITH THE SEED: THE CARDS: each row of YtagkgfniihiinaaGreatDoorRows.lean that lists a variable, with what it lists TIED to the program's text (the seventh form; the later family's looks); each row that meets fmt, with fmt's text TOLD by the authors' own Lean function (tested against real Go, not proved from fmt's source: count such statements apart). THE CARD IS WHAT COUNTS. Prove the row's statement (the work); the ties are given (YtagkgfniihiinaaGreatDoorTie.lean); close each card by the builder's one call (the guide's Derived/Test/ToyasCard.lean, 'card_holds'). Laid BY PROGRAM, IN A SANDBOX (cutbox-door.mjs). By AI agents, Wed Nov 11 2026. No macro, syntax, notation, axiom, sorry.
-/
import Derived.Test.YtagkgfniihiinaaGreatDoorRows
import GoSem.ClaimSeven
namespace Go.Proofs.YtagkgfniihiinaaGreatDoor
namespace Rows

/-- THE TIED CARD OF 'nearhandlaw04.WireNames'. -/
def wireNamesCard : Claim7 := { stood := { row := wireNamesRow, standIns := [], harness := (true, "42055467256e2805c8eb795d638c36465eb03cef9db687741a9cf9dd56760336"), looks := true }, kinds := [], alts := [], laidByText := true, laidKinds := [.data, .data, .data, .data, .sentinel, .sentinel, .pinned, .pinned], laidTests := true, laidLooks := .later }
def WireNamesCardSaid : Prop := Claim7.holds Tryz.pinned (.plain (OpenSpec.ofChange wireNamesSpec)) wireNamesCard

/-- THE TIED CARD OF 'nearhandlaw04.WireApart'. -/
def wireApartCard : Claim7 := { stood := { row := wireApartRow, standIns := [], harness := (true, "42055467256e2805c8eb795d638c36465eb03cef9db687741a9cf9dd56760336"), looks := true }, kinds := [], alts := [], laidByText := true, laidKinds := [.data, .data, .data, .data, .sentinel, .sentinel, .pinned, .pinned], laidTests := true, laidLooks := .later }
def WireApartCardSaid : Prop := Claim7.holds Tryz.pinned (.plain (OpenSpec.ofChange wireApartSpec)) wireApartCard

/-- THE TIED CARD OF 'nearhandlaw04.WireSizes'. -/
def wireSizesCard : Claim7 := { stood := { row := wireSizesRow, standIns := [], harness := (true, "42055467256e2805c8eb795d638c36465eb03cef9db687741a9cf9dd56760336"), looks := true }, kinds := [], alts := [], laidByText := true, laidKinds := [.data, .data, .data, .data, .sentinel, .sentinel, .pinned, .pinned], laidTests := true, laidLooks := .later }
def WireSizesCardSaid : Prop := Claim7.holds Tryz.pinned (.plain (OpenSpec.ofChange wireSizesSpec)) wireSizesCard

/-- THE TIED CARD OF 'nearhandlaw04.WireCommands'. -/
def wireCommandsCard : Claim7 := { stood := { row := wireCommandsRow, standIns := [], harness := (true, "42055467256e2805c8eb795d638c36465eb03cef9db687741a9cf9dd56760336"), looks := true }, kinds := [], alts := [], laidByText := true, laidKinds := [.data, .data, .widerDeep, .widerDeep, .data, .data, .data, .data, .data, .sentinel, .sentinel, .pinned, .pinned], laidTests := true, laidLooks := .later }
def WireCommandsCardSaid : Prop := Claim7.holds Tryz.pinned (.plain (OpenSpec.ofChange wireCommandsSpec)) wireCommandsCard

/-- THE TIED CARD OF 'nearhandlaw05.ReaderNames'. -/
def readerNamesCard : Claim7 := { stood := { row := readerNamesRow, standIns := [], harness := (true, "42055467256e2805c8eb795d638c36465eb03cef9db687741a9cf9dd56760336"), looks := true }, kinds := [], alts := [], laidByText := true, laidKinds := [.data, .data, .widerDeep, .widerDeep, .data, .data, .data, .data, .data, .data, .sentinel, .sentinel, .pinned, .pinned, .pinned], laidTests := true, laidLooks := .later }
def ReaderNamesCardSaid : Prop := Claim7.holds Tryz.pinned (.plain (OpenSpec.ofChange readerNamesSpec)) readerNamesCard

/-- THE TIED CARD OF 'nearhandlaw05.ReaderParses'. -/
def readerParsesCard : Claim7 := { stood := { row := readerParsesRow, standIns := [], harness := (true, "42055467256e2805c8eb795d638c36465eb03cef9db687741a9cf9dd56760336"), looks := true }, kinds := [], alts := [], laidByText := true, laidKinds := [.data, .data, .widerDeep, .widerDeep, .data, .data, .data, .data, .data, .data, .sentinel, .sentinel, .pinned, .pinned, .pinned], laidTests := true, laidLooks := .later }
def ReaderParsesCardSaid : Prop := Claim7.holds Tryz.pinned (.plain (OpenSpec.ofChange readerParsesSpec)) readerParsesCard

/-- THE TIED CARD OF 'nearhandlaw05.ReaderFeeds'. -/
def readerFeedsCard : Claim7 := { stood := { row := readerFeedsRow, standIns := [], harness := (true, "42055467256e2805c8eb795d638c36465eb03cef9db687741a9cf9dd56760336"), looks := true }, kinds := [], alts := [], laidByText := true, laidKinds := [.data, .data, .widerDeep, .widerDeep, .data, .data, .data, .data, .data, .data, .sentinel, .sentinel, .pinned, .pinned, .pinned], laidTests := true, laidLooks := .later }
def ReaderFeedsCardSaid : Prop := Claim7.holds Tryz.pinned (.plain (OpenSpec.ofChange readerFeedsSpec)) readerFeedsCard

/-- THE TIED CARD OF 'nearhandlaw04.WireBytes'. -/
def wireBytesCard : Claim7 := { stood := { row := wireBytesRow, standIns := [], harness := (true, "42055467256e2805c8eb795d638c36465eb03cef9db687741a9cf9dd56760336"), looks := true }, kinds := [], alts := [], laidByText := true, laidKinds := [.data, .data, .widerDeep, .widerDeep, .data, .data, .data, .data, .data, .sentinel, .sentinel, .pinned, .pinned], laidTests := true, laidLooks := .later }
def WireBytesCardSaid : Prop := Claim7.holds Tryz.pinned (.plain (OpenSpec.ofChange wireBytesSpec)) wireBytesCard

/-- THE TIED CARD OF 'nearhandlaw05.ReaderBack'. -/
def readerBackCard : Claim7 := { stood := { row := readerBackRow, standIns := [], harness := (true, "42055467256e2805c8eb795d638c36465eb03cef9db687741a9cf9dd56760336"), looks := true }, kinds := [], alts := [], laidByText := true, laidKinds := [.data, .data, .widerDeep, .widerDeep, .data, .data, .data, .data, .data, .data, .sentinel, .sentinel, .pinned, .pinned, .pinned], laidTests := true, laidLooks := .later }
def ReaderBackCardSaid : Prop := Claim7.holds Tryz.pinned (.plain (OpenSpec.ofChange readerBackSpec)) readerBackCard

/-- THE TIED CARD OF 'nearhandlaw05.ReaderWaits'. -/
def readerWaitsCard : Claim7 := { stood := { row := readerWaitsRow, standIns := [], harness := (true, "42055467256e2805c8eb795d638c36465eb03cef9db687741a9cf9dd56760336"), looks := true }, kinds := [], alts := [], laidByText := true, laidKinds := [.data, .data, .widerDeep, .widerDeep, .data, .data, .data, .data, .data, .data, .sentinel, .sentinel, .pinned, .pinned, .pinned], laidTests := true, laidLooks := .later }
def ReaderWaitsCardSaid : Prop := Claim7.holds Tryz.pinned (.plain (OpenSpec.ofChange readerWaitsSpec)) readerWaitsCard

/-- THE TIED CARD OF 'nearhandlaw05.ReaderAgain'. -/
def readerAgainCard : Claim7 := { stood := { row := readerAgainRow, standIns := [], harness := (true, "42055467256e2805c8eb795d638c36465eb03cef9db687741a9cf9dd56760336"), looks := true }, kinds := [], alts := [], laidByText := true, laidKinds := [.data, .data, .widerDeep, .widerDeep, .data, .data, .data, .data, .data, .data, .sentinel, .sentinel, .pinned, .pinned, .pinned], laidTests := true, laidLooks := .later }
def ReaderAgainCardSaid : Prop := Claim7.holds Tryz.pinned (.plain (OpenSpec.ofChange readerAgainSpec)) readerAgainCard

/-- THE TIED CARD OF 'nearhandlaw05.ReaderStops'. -/
def readerStopsCard : Claim7 := { stood := { row := readerStopsRow, standIns := [], harness := (true, "42055467256e2805c8eb795d638c36465eb03cef9db687741a9cf9dd56760336"), looks := true }, kinds := [], alts := [], laidByText := true, laidKinds := [.data, .data, .widerDeep, .widerDeep, .data, .data, .data, .data, .data, .data, .sentinel, .sentinel, .pinned, .pinned, .pinned], laidTests := true, laidLooks := .later }
def ReaderStopsCardSaid : Prop := Claim7.holds Tryz.pinned (.plain (OpenSpec.ofChange readerStopsSpec)) readerStopsCard

/-- THE SECOND FORM's CARD OF 'nearhandlaw04.WireNames'. -/
def wireNamesUptoCard : Claim7 := { stood := { row := wireNamesUptoRow, standIns := [], harness := (true, "42055467256e2805c8eb795d638c36465eb03cef9db687741a9cf9dd56760336"), looks := true }, kinds := [], alts := [], laidByText := true, laidKinds := [.data, .data, .data, .data, .sentinel, .sentinel, .pinned, .pinned], laidTests := true, laidLooks := .later }
def WireNamesUptoCardSaid : Prop := Claim7.holds Tryz.pinned (.plain (OpenSpec.upto wireNamesSpec)) wireNamesUptoCard

/-- THE SECOND FORM's CARD OF 'nearhandlaw04.WireApart'. -/
def wireApartUptoCard : Claim7 := { stood := { row := wireApartUptoRow, standIns := [], harness := (true, "42055467256e2805c8eb795d638c36465eb03cef9db687741a9cf9dd56760336"), looks := true }, kinds := [], alts := [], laidByText := true, laidKinds := [.data, .data, .data, .data, .sentinel, .sentinel, .pinned, .pinned], laidTests := true, laidLooks := .later }
def WireApartUptoCardSaid : Prop := Claim7.holds Tryz.pinned (.plain (OpenSpec.upto wireApartSpec)) wireApartUptoCard

/-- THE SECOND FORM's CARD OF 'nearhandlaw04.WireSizes'. -/
def wireSizesUptoCard : Claim7 := { stood := { row := wireSizesUptoRow, standIns := [], harness := (true, "42055467256e2805c8eb795d638c36465eb03cef9db687741a9cf9dd56760336"), looks := true }, kinds := [], alts := [], laidByText := true, laidKinds := [.data, .data, .data, .data, .sentinel, .sentinel, .pinned, .pinned], laidTests := true, laidLooks := .later }
def WireSizesUptoCardSaid : Prop := Claim7.holds Tryz.pinned (.plain (OpenSpec.upto wireSizesSpec)) wireSizesUptoCard

/-- THE SECOND FORM's CARD OF 'nearhandlaw04.WireCommands'. -/
def wireCommandsUptoCard : Claim7 := { stood := { row := wireCommandsUptoRow, standIns := [], harness := (true, "42055467256e2805c8eb795d638c36465eb03cef9db687741a9cf9dd56760336"), looks := true }, kinds := [], alts := [], laidByText := true, laidKinds := [.data, .data, .widerDeep, .widerDeep, .data, .data, .data, .data, .data, .sentinel, .sentinel, .pinned, .pinned], laidTests := true, laidLooks := .later }
def WireCommandsUptoCardSaid : Prop := Claim7.holds Tryz.pinned (.plain (OpenSpec.upto wireCommandsSpec)) wireCommandsUptoCard

/-- THE SECOND FORM's CARD OF 'nearhandlaw05.ReaderNames'. -/
def readerNamesUptoCard : Claim7 := { stood := { row := readerNamesUptoRow, standIns := [], harness := (true, "42055467256e2805c8eb795d638c36465eb03cef9db687741a9cf9dd56760336"), looks := true }, kinds := [], alts := [], laidByText := true, laidKinds := [.data, .data, .widerDeep, .widerDeep, .data, .data, .data, .data, .data, .data, .sentinel, .sentinel, .pinned, .pinned, .pinned], laidTests := true, laidLooks := .later }
def ReaderNamesUptoCardSaid : Prop := Claim7.holds Tryz.pinned (.plain (OpenSpec.upto readerNamesSpec)) readerNamesUptoCard

/-- THE SECOND FORM's CARD OF 'nearhandlaw05.ReaderParses'. -/
def readerParsesUptoCard : Claim7 := { stood := { row := readerParsesUptoRow, standIns := [], harness := (true, "42055467256e2805c8eb795d638c36465eb03cef9db687741a9cf9dd56760336"), looks := true }, kinds := [], alts := [], laidByText := true, laidKinds := [.data, .data, .widerDeep, .widerDeep, .data, .data, .data, .data, .data, .data, .sentinel, .sentinel, .pinned, .pinned, .pinned], laidTests := true, laidLooks := .later }
def ReaderParsesUptoCardSaid : Prop := Claim7.holds Tryz.pinned (.plain (OpenSpec.upto readerParsesSpec)) readerParsesUptoCard

/-- THE SECOND FORM's CARD OF 'nearhandlaw05.ReaderFeeds'. -/
def readerFeedsUptoCard : Claim7 := { stood := { row := readerFeedsUptoRow, standIns := [], harness := (true, "42055467256e2805c8eb795d638c36465eb03cef9db687741a9cf9dd56760336"), looks := true }, kinds := [], alts := [], laidByText := true, laidKinds := [.data, .data, .widerDeep, .widerDeep, .data, .data, .data, .data, .data, .data, .sentinel, .sentinel, .pinned, .pinned, .pinned], laidTests := true, laidLooks := .later }
def ReaderFeedsUptoCardSaid : Prop := Claim7.holds Tryz.pinned (.plain (OpenSpec.upto readerFeedsSpec)) readerFeedsUptoCard

/-- THE SECOND FORM's CARD OF 'nearhandlaw04.WireBytes'. -/
def wireBytesUptoCard : Claim7 := { stood := { row := wireBytesUptoRow, standIns := [], harness := (true, "42055467256e2805c8eb795d638c36465eb03cef9db687741a9cf9dd56760336"), looks := true }, kinds := [], alts := [], laidByText := true, laidKinds := [.data, .data, .widerDeep, .widerDeep, .data, .data, .data, .data, .data, .sentinel, .sentinel, .pinned, .pinned], laidTests := true, laidLooks := .later }
def WireBytesUptoCardSaid : Prop := Claim7.holds Tryz.pinned (.plain (OpenSpec.upto wireBytesSpec)) wireBytesUptoCard

/-- THE SECOND FORM's CARD OF 'nearhandlaw05.ReaderBack'. -/
def readerBackUptoCard : Claim7 := { stood := { row := readerBackUptoRow, standIns := [], harness := (true, "42055467256e2805c8eb795d638c36465eb03cef9db687741a9cf9dd56760336"), looks := true }, kinds := [], alts := [], laidByText := true, laidKinds := [.data, .data, .widerDeep, .widerDeep, .data, .data, .data, .data, .data, .data, .sentinel, .sentinel, .pinned, .pinned, .pinned], laidTests := true, laidLooks := .later }
def ReaderBackUptoCardSaid : Prop := Claim7.holds Tryz.pinned (.plain (OpenSpec.upto readerBackSpec)) readerBackUptoCard

/-- THE SECOND FORM's CARD OF 'nearhandlaw05.ReaderWaits'. -/
def readerWaitsUptoCard : Claim7 := { stood := { row := readerWaitsUptoRow, standIns := [], harness := (true, "42055467256e2805c8eb795d638c36465eb03cef9db687741a9cf9dd56760336"), looks := true }, kinds := [], alts := [], laidByText := true, laidKinds := [.data, .data, .widerDeep, .widerDeep, .data, .data, .data, .data, .data, .data, .sentinel, .sentinel, .pinned, .pinned, .pinned], laidTests := true, laidLooks := .later }
def ReaderWaitsUptoCardSaid : Prop := Claim7.holds Tryz.pinned (.plain (OpenSpec.upto readerWaitsSpec)) readerWaitsUptoCard

/-- THE SECOND FORM's CARD OF 'nearhandlaw05.ReaderAgain'. -/
def readerAgainUptoCard : Claim7 := { stood := { row := readerAgainUptoRow, standIns := [], harness := (true, "42055467256e2805c8eb795d638c36465eb03cef9db687741a9cf9dd56760336"), looks := true }, kinds := [], alts := [], laidByText := true, laidKinds := [.data, .data, .widerDeep, .widerDeep, .data, .data, .data, .data, .data, .data, .sentinel, .sentinel, .pinned, .pinned, .pinned], laidTests := true, laidLooks := .later }
def ReaderAgainUptoCardSaid : Prop := Claim7.holds Tryz.pinned (.plain (OpenSpec.upto readerAgainSpec)) readerAgainUptoCard

/-- THE SECOND FORM's CARD OF 'nearhandlaw05.ReaderStops'. -/
def readerStopsUptoCard : Claim7 := { stood := { row := readerStopsUptoRow, standIns := [], harness := (true, "42055467256e2805c8eb795d638c36465eb03cef9db687741a9cf9dd56760336"), looks := true }, kinds := [], alts := [], laidByText := true, laidKinds := [.data, .data, .widerDeep, .widerDeep, .data, .data, .data, .data, .data, .data, .sentinel, .sentinel, .pinned, .pinned, .pinned], laidTests := true, laidLooks := .later }
def ReaderStopsUptoCardSaid : Prop := Claim7.holds Tryz.pinned (.plain (OpenSpec.upto readerStopsSpec)) readerStopsUptoCard
end Rows
end Go.Proofs.YtagkgfniihiinaaGreatDoor
