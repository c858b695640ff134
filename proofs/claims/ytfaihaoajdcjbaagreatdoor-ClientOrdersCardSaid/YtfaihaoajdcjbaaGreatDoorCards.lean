/-
  DERIVED. GIVEN WITH THE SEED: THE CARDS: each row of YtfaihaoajdcjbaaGreatDoorRows.lean that lists a variable, with what it lists TIED to the program's text (the seventh form; the later family's looks); each row that meets fmt, with fmt's text TOLD by the authors' own Lean function (tested against real Go, not proved from fmt's source: count such statements apart). THE CARD IS WHAT COUNTS. Prove the row's statement (the work); the ties are given (YtfaihaoajdcjbaaGreatDoorTie.lean); close each card by the builder's one call (the guide's Derived/Test/ToyasCard.lean, 'card_holds'). Laid BY PROGRAM, IN A SANDBOX (cutbox-door.mjs). By AI agents, Wed Nov 11 2026. No macro, syntax, notation, axiom, sorry.
-/
import Derived.Test.YtfaihaoajdcjbaaGreatDoorRows
import GoSem.ClaimSeven
namespace Go.Proofs.YtfaihaoajdcjbaaGreatDoor
namespace Rows

/-- THE TIED CARD OF 'nearhandlaw24.ClientOrders'. -/
def clientOrdersCard : Claim7 := { stood := { row := clientOrdersRow, standIns := [], harness := (true, "c8889be7c92f033e0dff7db4e8a8024c7baf1dbcd3be0beb68a80c7fcbba58fa"), looks := true }, kinds := [], alts := [], laidByText := true, laidKinds := [.data, .data, .widerDeep, .widerDeep, .data, .data, .data, .data, .data, .data, .sentinel, .sentinel, .pinned, .pinned, .pinned], laidTests := true, laidLooks := .later }
def ClientOrdersCardSaid : Prop := Claim7.holds Tryz.pinned (.plain (OpenSpec.ofChange clientOrdersSpec)) clientOrdersCard

/-- THE TIED CARD OF 'nearhandlaw24.ClientNames'. -/
def clientNamesCard : Claim7 := { stood := { row := clientNamesRow, standIns := [], harness := (true, "c8889be7c92f033e0dff7db4e8a8024c7baf1dbcd3be0beb68a80c7fcbba58fa"), looks := true }, kinds := [], alts := [], laidByText := true, laidKinds := [.data, .data, .widerDeep, .widerDeep, .data, .data, .data, .data, .data, .data, .sentinel, .sentinel, .pinned, .pinned, .pinned, .pinned], laidTests := true, laidLooks := .later }
def ClientNamesCardSaid : Prop := Claim7.holds Tryz.pinned (.plain (OpenSpec.ofChange clientNamesSpec)) clientNamesCard

/-- THE TIED CARD OF 'nearhandlaw24.ClientWrites'. -/
def clientWritesCard : Claim7 := { stood := { row := clientWritesRow, standIns := [], harness := (true, "c8889be7c92f033e0dff7db4e8a8024c7baf1dbcd3be0beb68a80c7fcbba58fa"), looks := true }, kinds := [], alts := [], laidByText := true, laidKinds := [.data, .data, .widerDeep, .widerDeep, .data, .data, .data, .data, .data, .data, .sentinel, .sentinel, .pinned, .pinned, .pinned, .pinned], laidTests := true, laidLooks := .later }
def ClientWritesCardSaid : Prop := Claim7.holds Tryz.pinned (.plain (OpenSpec.ofChange clientWritesSpec)) clientWritesCard

/-- THE TIED CARD OF 'nearhandlaw24.ClientDrops'. -/
def clientDropsCard : Claim7 := { stood := { row := clientDropsRow, standIns := [], harness := (true, "c8889be7c92f033e0dff7db4e8a8024c7baf1dbcd3be0beb68a80c7fcbba58fa"), looks := true }, kinds := [], alts := [], laidByText := true, laidKinds := [.data, .data, .widerDeep, .widerDeep, .data, .data, .data, .data, .data, .data, .sentinel, .sentinel, .pinned, .pinned, .pinned, .pinned], laidTests := true, laidLooks := .later }
def ClientDropsCardSaid : Prop := Claim7.holds Tryz.pinned (.plain (OpenSpec.ofChange clientDropsSpec)) clientDropsCard

/-- THE SECOND FORM's CARD OF 'nearhandlaw24.ClientOrders'. -/
def clientOrdersUptoCard : Claim7 := { stood := { row := clientOrdersUptoRow, standIns := [], harness := (true, "c8889be7c92f033e0dff7db4e8a8024c7baf1dbcd3be0beb68a80c7fcbba58fa"), looks := true }, kinds := [], alts := [], laidByText := true, laidKinds := [.data, .data, .widerDeep, .widerDeep, .data, .data, .data, .data, .data, .data, .sentinel, .sentinel, .pinned, .pinned, .pinned], laidTests := true, laidLooks := .later }
def ClientOrdersUptoCardSaid : Prop := Claim7.holds Tryz.pinned (.plain (OpenSpec.upto clientOrdersSpec)) clientOrdersUptoCard

/-- THE SECOND FORM's CARD OF 'nearhandlaw24.ClientNames'. -/
def clientNamesUptoCard : Claim7 := { stood := { row := clientNamesUptoRow, standIns := [], harness := (true, "c8889be7c92f033e0dff7db4e8a8024c7baf1dbcd3be0beb68a80c7fcbba58fa"), looks := true }, kinds := [], alts := [], laidByText := true, laidKinds := [.data, .data, .widerDeep, .widerDeep, .data, .data, .data, .data, .data, .data, .sentinel, .sentinel, .pinned, .pinned, .pinned, .pinned], laidTests := true, laidLooks := .later }
def ClientNamesUptoCardSaid : Prop := Claim7.holds Tryz.pinned (.plain (OpenSpec.upto clientNamesSpec)) clientNamesUptoCard

/-- THE SECOND FORM's CARD OF 'nearhandlaw24.ClientWrites'. -/
def clientWritesUptoCard : Claim7 := { stood := { row := clientWritesUptoRow, standIns := [], harness := (true, "c8889be7c92f033e0dff7db4e8a8024c7baf1dbcd3be0beb68a80c7fcbba58fa"), looks := true }, kinds := [], alts := [], laidByText := true, laidKinds := [.data, .data, .widerDeep, .widerDeep, .data, .data, .data, .data, .data, .data, .sentinel, .sentinel, .pinned, .pinned, .pinned, .pinned], laidTests := true, laidLooks := .later }
def ClientWritesUptoCardSaid : Prop := Claim7.holds Tryz.pinned (.plain (OpenSpec.upto clientWritesSpec)) clientWritesUptoCard

/-- THE SECOND FORM's CARD OF 'nearhandlaw24.ClientDrops'. -/
def clientDropsUptoCard : Claim7 := { stood := { row := clientDropsUptoRow, standIns := [], harness := (true, "c8889be7c92f033e0dff7db4e8a8024c7baf1dbcd3be0beb68a80c7fcbba58fa"), looks := true }, kinds := [], alts := [], laidByText := true, laidKinds := [.data, .data, .widerDeep, .widerDeep, .data, .data, .data, .data, .data, .data, .sentinel, .sentinel, .pinned, .pinned, .pinned, .pinned], laidTests := true, laidLooks := .later }
def ClientDropsUptoCardSaid : Prop := Claim7.holds Tryz.pinned (.plain (OpenSpec.upto clientDropsSpec)) clientDropsUptoCard
end Rows
end Go.Proofs.YtfaihaoajdcjbaaGreatDoor
