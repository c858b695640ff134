/-
  DERIVED. GIVEN WITH THE SEED: THE CARDS: each row of YteoalcmhdoopnaaGreatDoorRows.lean that lists a variable, with what it lists TIED to the program's text (the seventh form; the later family's looks); each row that meets fmt, with fmt's text TOLD by the authors' own Lean function (tested against real Go, not proved from fmt's source: count such statements apart). THE CARD IS WHAT COUNTS. Prove the row's statement (the work); the ties are given (YteoalcmhdoopnaaGreatDoorTie.lean); close each card by the builder's one call (the guide's Derived/Test/ToyasCard.lean, 'card_holds'). Laid BY PROGRAM, IN A SANDBOX (cutbox-door.mjs). By AI agents, Wed Nov 11 2026. No macro, syntax, notation, axiom, sorry.
-/
import Derived.Test.YteoalcmhdoopnaaGreatDoorRows
import GoSem.ClaimSeven
namespace Go.Proofs.YteoalcmhdoopnaaGreatDoor
namespace Rows

/-- THE TIED CARD OF 'nearhandlaw09.ItemNumbers'. -/
def itemNumbersCard : Claim7 := { stood := { row := itemNumbersRow, standIns := [], harness := (true, "f6362f31240dec1f77e2fa539d1551907d3169907788290ba47439b308c57129"), looks := true }, kinds := [], alts := [], laidByText := true, laidKinds := [.data, .data, .widerDeep, .widerDeep, .data, .data, .data, .data, .data, .sentinel, .sentinel, .pinned, .pinned], laidTests := true, laidLooks := .later }
def ItemNumbersCardSaid : Prop := Claim7.holds Tryz.pinned (.plain (OpenSpec.ofChange itemNumbersSpec)) itemNumbersCard

/-- THE TIED CARD OF 'nearhandlaw09.ItemReals'. -/
def itemRealsCard : Claim7 := { stood := { row := itemRealsRow, standIns := [], harness := (true, "f6362f31240dec1f77e2fa539d1551907d3169907788290ba47439b308c57129"), looks := true }, kinds := [], alts := [], laidByText := true, laidKinds := [.data, .data, .widerDeep, .widerDeep, .data, .data, .data, .data, .data, .sentinel, .sentinel, .pinned, .pinned], laidTests := true, laidLooks := .later }
def ItemRealsCardSaid : Prop := Claim7.holds Tryz.pinned (.plain (OpenSpec.ofChange itemRealsSpec)) itemRealsCard

/-- THE TIED CARD OF 'nearhandlaw09.ItemNames'. -/
def itemNamesCard : Claim7 := { stood := { row := itemNamesRow, standIns := [], harness := (true, "f6362f31240dec1f77e2fa539d1551907d3169907788290ba47439b308c57129"), looks := true }, kinds := [], alts := [], laidByText := true, laidKinds := [.data, .data, .widerDeep, .widerDeep, .data, .data, .data, .data, .data, .sentinel, .sentinel, .pinned, .pinned], laidTests := true, laidLooks := .later }
def ItemNamesCardSaid : Prop := Claim7.holds Tryz.pinned (.plain (OpenSpec.ofChange itemNamesSpec)) itemNamesCard

/-- THE SECOND FORM's CARD OF 'nearhandlaw09.ItemNumbers'. -/
def itemNumbersUptoCard : Claim7 := { stood := { row := itemNumbersUptoRow, standIns := [], harness := (true, "f6362f31240dec1f77e2fa539d1551907d3169907788290ba47439b308c57129"), looks := true }, kinds := [], alts := [], laidByText := true, laidKinds := [.data, .data, .widerDeep, .widerDeep, .data, .data, .data, .data, .data, .sentinel, .sentinel, .pinned, .pinned], laidTests := true, laidLooks := .later }
def ItemNumbersUptoCardSaid : Prop := Claim7.holds Tryz.pinned (.plain (OpenSpec.upto itemNumbersSpec)) itemNumbersUptoCard

/-- THE SECOND FORM's CARD OF 'nearhandlaw09.ItemReals'. -/
def itemRealsUptoCard : Claim7 := { stood := { row := itemRealsUptoRow, standIns := [], harness := (true, "f6362f31240dec1f77e2fa539d1551907d3169907788290ba47439b308c57129"), looks := true }, kinds := [], alts := [], laidByText := true, laidKinds := [.data, .data, .widerDeep, .widerDeep, .data, .data, .data, .data, .data, .sentinel, .sentinel, .pinned, .pinned], laidTests := true, laidLooks := .later }
def ItemRealsUptoCardSaid : Prop := Claim7.holds Tryz.pinned (.plain (OpenSpec.upto itemRealsSpec)) itemRealsUptoCard

/-- THE SECOND FORM's CARD OF 'nearhandlaw09.ItemNames'. -/
def itemNamesUptoCard : Claim7 := { stood := { row := itemNamesUptoRow, standIns := [], harness := (true, "f6362f31240dec1f77e2fa539d1551907d3169907788290ba47439b308c57129"), looks := true }, kinds := [], alts := [], laidByText := true, laidKinds := [.data, .data, .widerDeep, .widerDeep, .data, .data, .data, .data, .data, .sentinel, .sentinel, .pinned, .pinned], laidTests := true, laidLooks := .later }
def ItemNamesUptoCardSaid : Prop := Claim7.holds Tryz.pinned (.plain (OpenSpec.upto itemNamesSpec)) itemNamesUptoCard
end Rows
end Go.Proofs.YteoalcmhdoopnaaGreatDoor
