/-
  DERIVED. GIVEN WITH THE SEED: THE CARDS: each row of YtapiinfnedhmoaaDoorRows.lean that lists a variable, with what it lists TIED to the program's text (the seventh form; the later family's looks); each row that meets fmt, with fmt's text TOLD by the authors' own Lean function (tested against real Go, not proved from fmt's source: count such statements apart). THE CARD IS WHAT COUNTS. Prove the row's statement (the work); the ties are given (YtapiinfnedhmoaaDoorTie.lean); close each card by the builder's one call (the guide's Derived/Test/ToyasCard.lean, 'card_holds'). Laid BY PROGRAM, IN A SANDBOX (cutbox-door.mjs). By AI agents, Wed Nov 11 2026. No macro, syntax, notation, axiom, sorry.
-/
import Derived.Test.YtapiinfnedhmoaaDoorRows
import GoSem.ClaimSeven
namespace Go.Proofs.YtapiinfnedhmoaaDoor
namespace Rows

/-- THE TIED CARD OF 'nearhandlaw03.ValueChecks'. -/
def valueChecksCard : Claim7 := { stood := { row := valueChecksRow, standIns := [], harness := (true, "71779e78884cb83fa81a34aa4b6aff82eb8932a96c6dc2e83fa15c471b30c0a2"), looks := false }, kinds := [], alts := [], laidByText := true, laidKinds := [.data, .pinned], laidTests := true, laidLooks := .later }
def ValueChecksCardSaid : Prop := Claim7.holds Tryd.pinned (.plain (OpenSpec.ofChange valueChecksSpec)) valueChecksCard

/-- THE TIED CARD OF 'nearhandlaw03.ValueParts'. -/
def valuePartsCard : Claim7 := { stood := { row := valuePartsRow, standIns := [], harness := (true, "71779e78884cb83fa81a34aa4b6aff82eb8932a96c6dc2e83fa15c471b30c0a2"), looks := false }, kinds := [], alts := [], laidByText := true, laidKinds := [.data, .pinned], laidTests := true, laidLooks := .later }
def ValuePartsCardSaid : Prop := Claim7.holds Tryd.pinned (.plain (OpenSpec.ofChange valuePartsSpec)) valuePartsCard

/-- THE TIED CARD OF 'nearhandlaw03.ValueDeep'. -/
def valueDeepCard : Claim7 := { stood := { row := valueDeepRow, standIns := [], harness := (true, "71779e78884cb83fa81a34aa4b6aff82eb8932a96c6dc2e83fa15c471b30c0a2"), looks := false }, kinds := [], alts := [], laidByText := true, laidKinds := [.data, .pinned], laidTests := true, laidLooks := .later }
def ValueDeepCardSaid : Prop := Claim7.holds Tryd.pinned (.plain (OpenSpec.ofChange valueDeepSpec)) valueDeepCard

/-- THE TIED CARD OF 'nearhandlaw03.ValueNames'. -/
def valueNamesCard : Claim7 := { stood := { row := valueNamesRow, standIns := [], harness := (true, "71779e78884cb83fa81a34aa4b6aff82eb8932a96c6dc2e83fa15c471b30c0a2"), looks := false }, kinds := [], alts := [], laidByText := true, laidKinds := [.data, .pinned], laidTests := true, laidLooks := .later }
def ValueNamesCardSaid : Prop := Claim7.holds Tryd.pinned (.plain (OpenSpec.ofChange valueNamesSpec)) valueNamesCard

/-- THE TIED CARD OF 'nearhandlaw03.ValueSame'. -/
def valueSameCard : Claim7 := { stood := { row := valueSameRow, standIns := [], harness := (true, "71779e78884cb83fa81a34aa4b6aff82eb8932a96c6dc2e83fa15c471b30c0a2"), looks := false }, kinds := [], alts := [], laidByText := true, laidKinds := [.data, .pinned], laidTests := true, laidLooks := .later }
def ValueSameCardSaid : Prop := Claim7.holds Tryd.pinned (.plain (OpenSpec.ofChange valueSameSpec)) valueSameCard

/-- THE TIED CARD OF 'nearhandlaw03.ValueMade'. -/
def valueMadeCard : Claim7 := { stood := { row := valueMadeRow, standIns := [], harness := (true, "71779e78884cb83fa81a34aa4b6aff82eb8932a96c6dc2e83fa15c471b30c0a2"), looks := false }, kinds := [], alts := [], laidByText := true, laidKinds := [.data, .pinned], laidTests := true, laidLooks := .later }
def ValueMadeCardSaid : Prop := Claim7.holds Tryd.pinned (.plain (OpenSpec.ofChange valueMadeSpec)) valueMadeCard

/-- THE SECOND FORM's CARD OF 'nearhandlaw03.ValueChecks'. -/
def valueChecksUptoCard : Claim7 := { stood := { row := valueChecksUptoRow, standIns := [], harness := (true, "71779e78884cb83fa81a34aa4b6aff82eb8932a96c6dc2e83fa15c471b30c0a2"), looks := false }, kinds := [], alts := [], laidByText := true, laidKinds := [.data, .pinned], laidTests := true, laidLooks := .later }
def ValueChecksUptoCardSaid : Prop := Claim7.holds Tryd.pinned (.plain (OpenSpec.upto valueChecksSpec)) valueChecksUptoCard

/-- THE SECOND FORM's CARD OF 'nearhandlaw03.ValueParts'. -/
def valuePartsUptoCard : Claim7 := { stood := { row := valuePartsUptoRow, standIns := [], harness := (true, "71779e78884cb83fa81a34aa4b6aff82eb8932a96c6dc2e83fa15c471b30c0a2"), looks := false }, kinds := [], alts := [], laidByText := true, laidKinds := [.data, .pinned], laidTests := true, laidLooks := .later }
def ValuePartsUptoCardSaid : Prop := Claim7.holds Tryd.pinned (.plain (OpenSpec.upto valuePartsSpec)) valuePartsUptoCard

/-- THE SECOND FORM's CARD OF 'nearhandlaw03.ValueDeep'. -/
def valueDeepUptoCard : Claim7 := { stood := { row := valueDeepUptoRow, standIns := [], harness := (true, "71779e78884cb83fa81a34aa4b6aff82eb8932a96c6dc2e83fa15c471b30c0a2"), looks := false }, kinds := [], alts := [], laidByText := true, laidKinds := [.data, .pinned], laidTests := true, laidLooks := .later }
def ValueDeepUptoCardSaid : Prop := Claim7.holds Tryd.pinned (.plain (OpenSpec.upto valueDeepSpec)) valueDeepUptoCard

/-- THE SECOND FORM's CARD OF 'nearhandlaw03.ValueNames'. -/
def valueNamesUptoCard : Claim7 := { stood := { row := valueNamesUptoRow, standIns := [], harness := (true, "71779e78884cb83fa81a34aa4b6aff82eb8932a96c6dc2e83fa15c471b30c0a2"), looks := false }, kinds := [], alts := [], laidByText := true, laidKinds := [.data, .pinned], laidTests := true, laidLooks := .later }
def ValueNamesUptoCardSaid : Prop := Claim7.holds Tryd.pinned (.plain (OpenSpec.upto valueNamesSpec)) valueNamesUptoCard

/-- THE SECOND FORM's CARD OF 'nearhandlaw03.ValueSame'. -/
def valueSameUptoCard : Claim7 := { stood := { row := valueSameUptoRow, standIns := [], harness := (true, "71779e78884cb83fa81a34aa4b6aff82eb8932a96c6dc2e83fa15c471b30c0a2"), looks := false }, kinds := [], alts := [], laidByText := true, laidKinds := [.data, .pinned], laidTests := true, laidLooks := .later }
def ValueSameUptoCardSaid : Prop := Claim7.holds Tryd.pinned (.plain (OpenSpec.upto valueSameSpec)) valueSameUptoCard

/-- THE SECOND FORM's CARD OF 'nearhandlaw03.ValueMade'. -/
def valueMadeUptoCard : Claim7 := { stood := { row := valueMadeUptoRow, standIns := [], harness := (true, "71779e78884cb83fa81a34aa4b6aff82eb8932a96c6dc2e83fa15c471b30c0a2"), looks := false }, kinds := [], alts := [], laidByText := true, laidKinds := [.data, .pinned], laidTests := true, laidLooks := .later }
def ValueMadeUptoCardSaid : Prop := Claim7.holds Tryd.pinned (.plain (OpenSpec.upto valueMadeSpec)) valueMadeUptoCard
end Rows
end Go.Proofs.YtapiinfnedhmoaaDoor
