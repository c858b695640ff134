/-
  DERIVED. GIVEN WITH THE SEED: THE CARDS: each row of YtgpfjhligiapdaaGreatDoorRows.lean that lists a variable, with what it lists TIED to the program's text (the seventh form; the later family's looks); each row that meets fmt, with fmt's text TOLD by the authors' own Lean function (tested against real Go, not proved from fmt's source: count such statements apart). THE CARD IS WHAT COUNTS. Prove the row's statement (the work); the ties are given (YtgpfjhligiapdaaGreatDoorTie.lean); close each card by the builder's one call (the guide's Derived/Test/ToyasCard.lean, 'card_holds'). Laid BY PROGRAM, IN A SANDBOX (cutbox-door.mjs). By AI agents, Wed Nov 11 2026. No macro, syntax, notation, axiom, sorry.
-/
import Derived.Test.YtgpfjhligiapdaaGreatDoorRows
import GoSem.ClaimSeven
namespace Go.Proofs.YtgpfjhligiapdaaGreatDoor
namespace Rows

/-- THE TIED CARD OF 'nearhandlaw02.RealWhole'. -/
def realWholeCard : Claim7 := { stood := { row := realWholeRow, standIns := [], harness := (true, "689aa8b1652b8b12c24f5d1ac7c68c8e3d1214e9c9bbbd007189457bedda485e"), looks := true }, kinds := [], alts := [], laidByText := true, laidKinds := [.data, .data, .widerDeep, .widerDeep, .data, .data, .data, .data, .data, .sentinel, .sentinel, .pinned, .pinned], laidTests := true, laidLooks := .later }
def RealWholeCardSaid : Prop := Claim7.holds Tryz.pinned (.plain (OpenSpec.ofChange realWholeSpec)) realWholeCard

/-- THE TIED CARD OF 'nearhandlaw02.RealNear'. -/
def realNearCard : Claim7 := { stood := { row := realNearRow, standIns := [], harness := (true, "689aa8b1652b8b12c24f5d1ac7c68c8e3d1214e9c9bbbd007189457bedda485e"), looks := true }, kinds := [], alts := [], laidByText := true, laidKinds := [.data, .data, .widerDeep, .widerDeep, .data, .data, .data, .data, .data, .sentinel, .sentinel, .pinned, .pinned], laidTests := true, laidLooks := .later }
def RealNearCardSaid : Prop := Claim7.holds Tryz.pinned (.plain (OpenSpec.ofChange realNearSpec)) realNearCard

/-- THE TIED CARD OF 'nearhandlaw02.RealSigns'. -/
def realSignsCard : Claim7 := { stood := { row := realSignsRow, standIns := [], harness := (true, "689aa8b1652b8b12c24f5d1ac7c68c8e3d1214e9c9bbbd007189457bedda485e"), looks := true }, kinds := [], alts := [], laidByText := true, laidKinds := [.data, .data, .widerDeep, .widerDeep, .data, .data, .data, .data, .data, .sentinel, .sentinel, .pinned, .pinned], laidTests := true, laidLooks := .later }
def RealSignsCardSaid : Prop := Claim7.holds Tryz.pinned (.plain (OpenSpec.ofChange realSignsSpec)) realSignsCard

/-- THE TIED CARD OF 'nearhandlaw02.RealNames'. -/
def realNamesCard : Claim7 := { stood := { row := realNamesRow, standIns := [], harness := (true, "689aa8b1652b8b12c24f5d1ac7c68c8e3d1214e9c9bbbd007189457bedda485e"), looks := true }, kinds := [], alts := [], laidByText := true, laidKinds := [.data, .data, .widerDeep, .widerDeep, .data, .data, .data, .data, .data, .sentinel, .sentinel, .pinned, .pinned], laidTests := true, laidLooks := .later }
def RealNamesCardSaid : Prop := Claim7.holds Tryz.pinned (.plain (OpenSpec.ofChange realNamesSpec)) realNamesCard

/-- THE TIED CARD OF 'nearhandlaw02.RealSums'. -/
def realSumsCard : Claim7 := { stood := { row := realSumsRow, standIns := [], harness := (true, "689aa8b1652b8b12c24f5d1ac7c68c8e3d1214e9c9bbbd007189457bedda485e"), looks := true }, kinds := [], alts := [], laidByText := true, laidKinds := [.data, .data, .widerDeep, .widerDeep, .data, .data, .data, .data, .data, .sentinel, .sentinel, .pinned, .pinned], laidTests := true, laidLooks := .later }
def RealSumsCardSaid : Prop := Claim7.holds Tryz.pinned (.plain (OpenSpec.ofChange realSumsSpec)) realSumsCard

/-- THE TIED CARD OF 'nearhandlaw02.RealOrders'. -/
def realOrdersCard : Claim7 := { stood := { row := realOrdersRow, standIns := [], harness := (true, "689aa8b1652b8b12c24f5d1ac7c68c8e3d1214e9c9bbbd007189457bedda485e"), looks := true }, kinds := [], alts := [], laidByText := true, laidKinds := [.data, .data, .widerDeep, .widerDeep, .data, .data, .data, .data, .data, .sentinel, .sentinel, .pinned, .pinned], laidTests := true, laidLooks := .later }
def RealOrdersCardSaid : Prop := Claim7.holds Tryz.pinned (.plain (OpenSpec.ofChange realOrdersSpec)) realOrdersCard

/-- THE SECOND FORM's CARD OF 'nearhandlaw02.RealWhole'. -/
def realWholeUptoCard : Claim7 := { stood := { row := realWholeUptoRow, standIns := [], harness := (true, "689aa8b1652b8b12c24f5d1ac7c68c8e3d1214e9c9bbbd007189457bedda485e"), looks := true }, kinds := [], alts := [], laidByText := true, laidKinds := [.data, .data, .widerDeep, .widerDeep, .data, .data, .data, .data, .data, .sentinel, .sentinel, .pinned, .pinned], laidTests := true, laidLooks := .later }
def RealWholeUptoCardSaid : Prop := Claim7.holds Tryz.pinned (.plain (OpenSpec.upto realWholeSpec)) realWholeUptoCard

/-- THE SECOND FORM's CARD OF 'nearhandlaw02.RealNear'. -/
def realNearUptoCard : Claim7 := { stood := { row := realNearUptoRow, standIns := [], harness := (true, "689aa8b1652b8b12c24f5d1ac7c68c8e3d1214e9c9bbbd007189457bedda485e"), looks := true }, kinds := [], alts := [], laidByText := true, laidKinds := [.data, .data, .widerDeep, .widerDeep, .data, .data, .data, .data, .data, .sentinel, .sentinel, .pinned, .pinned], laidTests := true, laidLooks := .later }
def RealNearUptoCardSaid : Prop := Claim7.holds Tryz.pinned (.plain (OpenSpec.upto realNearSpec)) realNearUptoCard

/-- THE SECOND FORM's CARD OF 'nearhandlaw02.RealSigns'. -/
def realSignsUptoCard : Claim7 := { stood := { row := realSignsUptoRow, standIns := [], harness := (true, "689aa8b1652b8b12c24f5d1ac7c68c8e3d1214e9c9bbbd007189457bedda485e"), looks := true }, kinds := [], alts := [], laidByText := true, laidKinds := [.data, .data, .widerDeep, .widerDeep, .data, .data, .data, .data, .data, .sentinel, .sentinel, .pinned, .pinned], laidTests := true, laidLooks := .later }
def RealSignsUptoCardSaid : Prop := Claim7.holds Tryz.pinned (.plain (OpenSpec.upto realSignsSpec)) realSignsUptoCard

/-- THE SECOND FORM's CARD OF 'nearhandlaw02.RealNames'. -/
def realNamesUptoCard : Claim7 := { stood := { row := realNamesUptoRow, standIns := [], harness := (true, "689aa8b1652b8b12c24f5d1ac7c68c8e3d1214e9c9bbbd007189457bedda485e"), looks := true }, kinds := [], alts := [], laidByText := true, laidKinds := [.data, .data, .widerDeep, .widerDeep, .data, .data, .data, .data, .data, .sentinel, .sentinel, .pinned, .pinned], laidTests := true, laidLooks := .later }
def RealNamesUptoCardSaid : Prop := Claim7.holds Tryz.pinned (.plain (OpenSpec.upto realNamesSpec)) realNamesUptoCard

/-- THE SECOND FORM's CARD OF 'nearhandlaw02.RealSums'. -/
def realSumsUptoCard : Claim7 := { stood := { row := realSumsUptoRow, standIns := [], harness := (true, "689aa8b1652b8b12c24f5d1ac7c68c8e3d1214e9c9bbbd007189457bedda485e"), looks := true }, kinds := [], alts := [], laidByText := true, laidKinds := [.data, .data, .widerDeep, .widerDeep, .data, .data, .data, .data, .data, .sentinel, .sentinel, .pinned, .pinned], laidTests := true, laidLooks := .later }
def RealSumsUptoCardSaid : Prop := Claim7.holds Tryz.pinned (.plain (OpenSpec.upto realSumsSpec)) realSumsUptoCard

/-- THE SECOND FORM's CARD OF 'nearhandlaw02.RealOrders'. -/
def realOrdersUptoCard : Claim7 := { stood := { row := realOrdersUptoRow, standIns := [], harness := (true, "689aa8b1652b8b12c24f5d1ac7c68c8e3d1214e9c9bbbd007189457bedda485e"), looks := true }, kinds := [], alts := [], laidByText := true, laidKinds := [.data, .data, .widerDeep, .widerDeep, .data, .data, .data, .data, .data, .sentinel, .sentinel, .pinned, .pinned], laidTests := true, laidLooks := .later }
def RealOrdersUptoCardSaid : Prop := Claim7.holds Tryz.pinned (.plain (OpenSpec.upto realOrdersSpec)) realOrdersUptoCard
end Rows
end Go.Proofs.YtgpfjhligiapdaaGreatDoor
