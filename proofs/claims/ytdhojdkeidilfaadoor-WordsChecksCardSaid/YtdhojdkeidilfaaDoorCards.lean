/-
  DERIVED. GIVEN WITH THE SEED: THE CARDS: each row of YtdhojdkeidilfaaDoorRows.lean that lists a variable, with what it lists TIED to the program's text (the seventh form; the later family's looks); each row that meets fmt, with fmt's text TOLD by the authors' own Lean function (tested against real Go, not proved from fmt's source: count such statements apart). THE CARD IS WHAT COUNTS. Prove the row's statement (the work); the ties are given (YtdhojdkeidilfaaDoorTie.lean); close each card by the builder's one call (the guide's Derived/Test/ToyasCard.lean, 'card_holds'). Laid BY PROGRAM, IN A SANDBOX (cutbox-door.mjs). By AI agents, Wed Nov 11 2026. No macro, syntax, notation, axiom, sorry.
-/
import Derived.Test.YtdhojdkeidilfaaDoorRows
import GoSem.ClaimSeven
namespace Go.Proofs.YtdhojdkeidilfaaDoor
namespace Rows

/-- THE TIED CARD OF 'nearhandlaw17.WordsNames'. -/
def wordsNamesCard : Claim7 := { stood := { row := wordsNamesRow, standIns := [], harness := (true, "d4d341ef95067687dd72ce4c09b9de0eadeaa4609e2c896839405e8bd702f2bc"), looks := false }, kinds := [], alts := [], laidByText := true, laidKinds := [.data, .pinned, .pinned], laidTests := true, laidLooks := .later }
def WordsNamesCardSaid : Prop := Claim7.holds Tryd.pinned (.plain (OpenSpec.ofChange wordsNamesSpec)) wordsNamesCard

/-- THE TIED CARD OF 'nearhandlaw17.WordsCases'. -/
def wordsCasesCard : Claim7 := { stood := { row := wordsCasesRow, standIns := [], harness := (true, "d4d341ef95067687dd72ce4c09b9de0eadeaa4609e2c896839405e8bd702f2bc"), looks := false }, kinds := [], alts := [], laidByText := true, laidKinds := [.data, .pinned, .pinned], laidTests := true, laidLooks := .later }
def WordsCasesCardSaid : Prop := Claim7.holds Tryd.pinned (.plain (OpenSpec.ofChange wordsCasesSpec)) wordsCasesCard

/-- THE TIED CARD OF 'nearhandlaw17.WordsKeys'. -/
def wordsKeysCard : Claim7 := { stood := { row := wordsKeysRow, standIns := [], harness := (true, "d4d341ef95067687dd72ce4c09b9de0eadeaa4609e2c896839405e8bd702f2bc"), looks := false }, kinds := [], alts := [], laidByText := true, laidKinds := [.data, .pinned, .pinned], laidTests := true, laidLooks := .later }
def WordsKeysCardSaid : Prop := Claim7.holds Tryd.pinned (.plain (OpenSpec.ofChange wordsKeysSpec)) wordsKeysCard

/-- THE TIED CARD OF 'nearhandlaw17.WordsErrors'. -/
def wordsErrorsCard : Claim7 := { stood := { row := wordsErrorsRow, standIns := [], harness := (true, "d4d341ef95067687dd72ce4c09b9de0eadeaa4609e2c896839405e8bd702f2bc"), looks := false }, kinds := [], alts := [], laidByText := true, laidKinds := [.data, .data, .data, .data, .pinned, .pinned], laidTests := true, laidLooks := .later }
def WordsErrorsCardSaid : Prop := Claim7.holds Tryd.pinned (.plain (OpenSpec.ofChange wordsErrorsSpec)) wordsErrorsCard

/-- THE TIED CARD OF 'nearhandlaw17.WordsChecks'. -/
def wordsChecksCard : Claim7 := { stood := { row := wordsChecksRow, standIns := [], harness := (true, "d4d341ef95067687dd72ce4c09b9de0eadeaa4609e2c896839405e8bd702f2bc"), looks := false }, kinds := [], alts := [], laidByText := true, laidKinds := [.data, .data, .data, .data, .pinned, .pinned], laidTests := true, laidLooks := .later }
def WordsChecksCardSaid : Prop := Claim7.holds Tryd.pinned (.plain (OpenSpec.ofChange wordsChecksSpec)) wordsChecksCard

/-- THE SECOND FORM's CARD OF 'nearhandlaw17.WordsNames'. -/
def wordsNamesUptoCard : Claim7 := { stood := { row := wordsNamesUptoRow, standIns := [], harness := (true, "d4d341ef95067687dd72ce4c09b9de0eadeaa4609e2c896839405e8bd702f2bc"), looks := false }, kinds := [], alts := [], laidByText := true, laidKinds := [.data, .pinned, .pinned], laidTests := true, laidLooks := .later }
def WordsNamesUptoCardSaid : Prop := Claim7.holds Tryd.pinned (.plain (OpenSpec.upto wordsNamesSpec)) wordsNamesUptoCard

/-- THE SECOND FORM's CARD OF 'nearhandlaw17.WordsCases'. -/
def wordsCasesUptoCard : Claim7 := { stood := { row := wordsCasesUptoRow, standIns := [], harness := (true, "d4d341ef95067687dd72ce4c09b9de0eadeaa4609e2c896839405e8bd702f2bc"), looks := false }, kinds := [], alts := [], laidByText := true, laidKinds := [.data, .pinned, .pinned], laidTests := true, laidLooks := .later }
def WordsCasesUptoCardSaid : Prop := Claim7.holds Tryd.pinned (.plain (OpenSpec.upto wordsCasesSpec)) wordsCasesUptoCard

/-- THE SECOND FORM's CARD OF 'nearhandlaw17.WordsKeys'. -/
def wordsKeysUptoCard : Claim7 := { stood := { row := wordsKeysUptoRow, standIns := [], harness := (true, "d4d341ef95067687dd72ce4c09b9de0eadeaa4609e2c896839405e8bd702f2bc"), looks := false }, kinds := [], alts := [], laidByText := true, laidKinds := [.data, .pinned, .pinned], laidTests := true, laidLooks := .later }
def WordsKeysUptoCardSaid : Prop := Claim7.holds Tryd.pinned (.plain (OpenSpec.upto wordsKeysSpec)) wordsKeysUptoCard

/-- THE SECOND FORM's CARD OF 'nearhandlaw17.WordsErrors'. -/
def wordsErrorsUptoCard : Claim7 := { stood := { row := wordsErrorsUptoRow, standIns := [], harness := (true, "d4d341ef95067687dd72ce4c09b9de0eadeaa4609e2c896839405e8bd702f2bc"), looks := false }, kinds := [], alts := [], laidByText := true, laidKinds := [.data, .data, .data, .data, .pinned, .pinned], laidTests := true, laidLooks := .later }
def WordsErrorsUptoCardSaid : Prop := Claim7.holds Tryd.pinned (.plain (OpenSpec.upto wordsErrorsSpec)) wordsErrorsUptoCard

/-- THE SECOND FORM's CARD OF 'nearhandlaw17.WordsChecks'. -/
def wordsChecksUptoCard : Claim7 := { stood := { row := wordsChecksUptoRow, standIns := [], harness := (true, "d4d341ef95067687dd72ce4c09b9de0eadeaa4609e2c896839405e8bd702f2bc"), looks := false }, kinds := [], alts := [], laidByText := true, laidKinds := [.data, .data, .data, .data, .pinned, .pinned], laidTests := true, laidLooks := .later }
def WordsChecksUptoCardSaid : Prop := Claim7.holds Tryd.pinned (.plain (OpenSpec.upto wordsChecksSpec)) wordsChecksUptoCard
end Rows
end Go.Proofs.YtdhojdkeidilfaaDoor
