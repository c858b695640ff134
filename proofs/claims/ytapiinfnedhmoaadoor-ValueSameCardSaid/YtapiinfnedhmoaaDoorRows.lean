/-
  NARROWER THAN 'FOR EVERY INPUT', by the rows' own cells (each row's printed sentence says how): ValueChecks: loops, laid · ValueParts: loops, laid · ValueDeep: laid · ValueNames: laid · ValueSame: loops, laid · ValueMade: laid.
  DERIVED. THE GIVEN ROWS OF THIS SEAT. 6 by the template 'for every input the law returns true; each argument reads behind the call as it read before'; 0 by the template 'total and deterministic' (their statements: YtapiinfnedhmoaaDoorTotals.lean).
  GIVEN WITH THE SEED: the statements are not yours to turn. If you find one false, say at which input.
  Laid BY PROGRAM, IN A SANDBOX (cutbox-rows.mjs): the forced cells as the released guide's own fill.sh prints them over the translation e895226260f9a0c3… (all of the seat's roots in one cut). By AI agents, Wed Nov 11 2026. No macro, syntax, notation, axiom, sorry.
-/
import Derived.Test.YtapiinfnedhmoaaDoorChecked
import GoSem.PinnedTables
import GoSem.Claim
import GoSem.ClaimJoined
import GoSem.ClaimMapViews
import Derived.JoinedTies
import Derived.KernelRfl
namespace Go.Proofs.YtapiinfnedhmoaaDoor
/- THE CELL 'sum', in the pinned program and in every row, IS THE sha256 OF THE DUMP (.gsa) THAT YtapiinfnedhmoaaDoorProg.lean LOADS. Nothing in Lean hashes anything: it is a label: what it is worth is what the hold of that sum in a sandbox is worth. -/
noncomputable def Tryd.pinned : Pinned := { name := "ytapiinfnedhmoaadoor", sum := "e895226260f9a0c378588446e6fa521a19cfa8ba1e42d8a4fbb7d0e9b56eb165", checked := Tryd.checked }
namespace Rows
def none {H : Type} : Left H := { results := [], args := [] }

/- WHAT THE LISTED PACKAGE-LEVEL VARIABLES READ AS WHEN THE CALL BEGINS. Each datum BY PROGRAM (the guide's laid-datum.mjs) off the statement by which the dump's own 'gosem.cut.vars' lays the variable. In a bare row this is a premise. The card (YtapiinfnedhmoaaDoorCards.lean) ties it to the program's text. -/
def laid_unicode_utf8_acceptRanges {H : Type} : DataW H := .agg [.agg [.lit (.int .u8 128), .lit (.int .u8 191)], .agg [.lit (.int .u8 160), .lit (.int .u8 191)], .agg [.lit (.int .u8 128), .lit (.int .u8 159)], .agg [.lit (.int .u8 144), .lit (.int .u8 191)], .agg [.lit (.int .u8 128), .lit (.int .u8 143)], .agg [.lit (.int .u8 0), .lit (.int .u8 0)], .agg [.lit (.int .u8 0), .lit (.int .u8 0)], .agg [.lit (.int .u8 0), .lit (.int .u8 0)], .agg [.lit (.int .u8 0), .lit (.int .u8 0)], .agg [.lit (.int .u8 0), .lit (.int .u8 0)], .agg [.lit (.int .u8 0), .lit (.int .u8 0)], .agg [.lit (.int .u8 0), .lit (.int .u8 0)], .agg [.lit (.int .u8 0), .lit (.int .u8 0)], .agg [.lit (.int .u8 0), .lit (.int .u8 0)], .agg [.lit (.int .u8 0), .lit (.int .u8 0)], .agg [.lit (.int .u8 0), .lit (.int .u8 0)]]
/-- One of Go's own tables, pinned by name: the form's constant. -/
def laid_unicode_utf8_first : DataW Unit := Go.Pinned.utf8First

/-- 'nearhandlaw03.ValueChecks': WHATEVER THE INPUT: true; the input reads as it did. -/
def valueChecksSpec : ChangeSpec := { name := "valueChecks", fn := fun _ => fun
  | [d] => { results := [.lit (.bool true)], args := [d] }
  | _ => none }
def valueChecksRow : OpenClaim := { program := "ytapiinfnedhmoaadoor", sum := "e895226260f9a0c378588446e6fa521a19cfa8ba1e42d8a4fbb7d0e9b56eb165", func := "nearhand/nearhandlaw03.ValueChecks", spec := "valueChecks", inPlace := ["math.Float64bits", "internal/bytealg.IndexByteString", "internal/bytealg.IndexString"], recurses := true, named := ["unicode/utf8.first", "unicode/utf8.acceptRanges", "internal/bytealg.MaxLen"], loops := true, apart := false, laid := [("unicode/utf8.acceptRanges", laid_unicode_utf8_acceptRanges), ("unicode/utf8.first", laid_unicode_utf8_first)] }
def ValueChecksSaid : Prop := valueChecksRow.holds Tryd.pinned (OpenSpec.ofChange valueChecksSpec)

/-- ITS FALSE NEIGHBOUR: 'it returns false'. Refute it at one input. -/
def valueChecksWrong : ChangeSpec := { name := "valueChecks", fn := fun _ => fun
  | [d] => { results := [.lit (.bool false)], args := [d] }
  | _ => none }
def ValueChecksWrongFalsely : Prop := valueChecksRow.holds Tryd.pinned (OpenSpec.ofChange valueChecksWrong)

/-- 'nearhandlaw03.ValueParts': WHATEVER THE INPUT: true; the input reads as it did. -/
def valuePartsSpec : ChangeSpec := { name := "valueParts", fn := fun _ => fun
  | [d] => { results := [.lit (.bool true)], args := [d] }
  | _ => none }
def valuePartsRow : OpenClaim := { program := "ytapiinfnedhmoaadoor", sum := "e895226260f9a0c378588446e6fa521a19cfa8ba1e42d8a4fbb7d0e9b56eb165", func := "nearhand/nearhandlaw03.ValueParts", spec := "valueParts", inPlace := ["math.Float64bits", "internal/bytealg.IndexByteString", "internal/bytealg.IndexString"], recurses := true, named := ["unicode/utf8.first", "unicode/utf8.acceptRanges", "internal/bytealg.MaxLen"], loops := true, apart := false, laid := [("unicode/utf8.acceptRanges", laid_unicode_utf8_acceptRanges), ("unicode/utf8.first", laid_unicode_utf8_first)] }
def ValuePartsSaid : Prop := valuePartsRow.holds Tryd.pinned (OpenSpec.ofChange valuePartsSpec)

/-- ITS FALSE NEIGHBOUR: 'it returns false'. Refute it at one input. -/
def valuePartsWrong : ChangeSpec := { name := "valueParts", fn := fun _ => fun
  | [d] => { results := [.lit (.bool false)], args := [d] }
  | _ => none }
def ValuePartsWrongFalsely : Prop := valuePartsRow.holds Tryd.pinned (OpenSpec.ofChange valuePartsWrong)

/-- 'nearhandlaw03.ValueDeep': WHATEVER THE INPUT: true; the input reads as it did. -/
def valueDeepSpec : ChangeSpec := { name := "valueDeep", fn := fun _ => fun
  | [d1, d2] => { results := [.lit (.bool true)], args := [d1, d2] }
  | _ => none }
def valueDeepRow : OpenClaim := { program := "ytapiinfnedhmoaadoor", sum := "e895226260f9a0c378588446e6fa521a19cfa8ba1e42d8a4fbb7d0e9b56eb165", func := "nearhand/nearhandlaw03.ValueDeep", spec := "valueDeep", inPlace := ["math.Float64bits", "internal/bytealg.IndexByteString", "internal/bytealg.IndexString"], recurses := true, named := ["unicode/utf8.first", "unicode/utf8.acceptRanges", "internal/bytealg.MaxLen"], apart := false, laid := [("unicode/utf8.acceptRanges", laid_unicode_utf8_acceptRanges), ("unicode/utf8.first", laid_unicode_utf8_first)] }
def ValueDeepSaid : Prop := valueDeepRow.holds Tryd.pinned (OpenSpec.ofChange valueDeepSpec)

/-- ITS FALSE NEIGHBOUR: 'it returns false'. Refute it at one input. -/
def valueDeepWrong : ChangeSpec := { name := "valueDeep", fn := fun _ => fun
  | [d1, d2] => { results := [.lit (.bool false)], args := [d1, d2] }
  | _ => none }
def ValueDeepWrongFalsely : Prop := valueDeepRow.holds Tryd.pinned (OpenSpec.ofChange valueDeepWrong)

/-- 'nearhandlaw03.ValueNames': WHATEVER THE INPUT: true; the input reads as it did. -/
def valueNamesSpec : ChangeSpec := { name := "valueNames", fn := fun _ => fun
  | [] => { results := [.lit (.bool true)], args := [] }
  | _ => none }
def valueNamesRow : OpenClaim := { program := "ytapiinfnedhmoaadoor", sum := "e895226260f9a0c378588446e6fa521a19cfa8ba1e42d8a4fbb7d0e9b56eb165", func := "nearhand/nearhandlaw03.ValueNames", spec := "valueNames", inPlace := ["math.Float64bits", "internal/bytealg.IndexByteString", "internal/bytealg.IndexString"], recurses := true, named := ["unicode/utf8.first", "unicode/utf8.acceptRanges", "internal/bytealg.MaxLen"], apart := false, laid := [("unicode/utf8.acceptRanges", laid_unicode_utf8_acceptRanges), ("unicode/utf8.first", laid_unicode_utf8_first)] }
def ValueNamesSaid : Prop := valueNamesRow.holds Tryd.pinned (OpenSpec.ofChange valueNamesSpec)

/-- ITS FALSE NEIGHBOUR: 'it returns false'. Refute it at one input. -/
def valueNamesWrong : ChangeSpec := { name := "valueNames", fn := fun _ => fun
  | [] => { results := [.lit (.bool false)], args := [] }
  | _ => none }
def ValueNamesWrongFalsely : Prop := valueNamesRow.holds Tryd.pinned (OpenSpec.ofChange valueNamesWrong)

/-- 'nearhandlaw03.ValueSame': WHATEVER THE INPUT: true; the input reads as it did. -/
def valueSameSpec : ChangeSpec := { name := "valueSame", fn := fun _ => fun
  | [d1, d2, d3] => { results := [.lit (.bool true)], args := [d1, d2, d3] }
  | _ => none }
def valueSameRow : OpenClaim := { program := "ytapiinfnedhmoaadoor", sum := "e895226260f9a0c378588446e6fa521a19cfa8ba1e42d8a4fbb7d0e9b56eb165", func := "nearhand/nearhandlaw03.ValueSame", spec := "valueSame", inPlace := ["math.Float64bits", "internal/bytealg.IndexByteString", "internal/bytealg.IndexString"], unfollowed := true, recurses := true, named := ["unicode/utf8.first", "unicode/utf8.acceptRanges", "internal/bytealg.MaxLen"], loops := true, apart := false, laid := [("unicode/utf8.acceptRanges", laid_unicode_utf8_acceptRanges), ("unicode/utf8.first", laid_unicode_utf8_first)] }
def ValueSameSaid : Prop := valueSameRow.holds Tryd.pinned (OpenSpec.ofChange valueSameSpec)

/-- ITS FALSE NEIGHBOUR: 'it returns false'. Refute it at one input. -/
def valueSameWrong : ChangeSpec := { name := "valueSame", fn := fun _ => fun
  | [d1, d2, d3] => { results := [.lit (.bool false)], args := [d1, d2, d3] }
  | _ => none }
def ValueSameWrongFalsely : Prop := valueSameRow.holds Tryd.pinned (OpenSpec.ofChange valueSameWrong)

/-- 'nearhandlaw03.ValueMade': WHATEVER THE INPUT: true; the input reads as it did. -/
def valueMadeSpec : ChangeSpec := { name := "valueMade", fn := fun _ => fun
  | [d1, d2] => { results := [.lit (.bool true)], args := [d1, d2] }
  | _ => none }
def valueMadeRow : OpenClaim := { program := "ytapiinfnedhmoaadoor", sum := "e895226260f9a0c378588446e6fa521a19cfa8ba1e42d8a4fbb7d0e9b56eb165", func := "nearhand/nearhandlaw03.ValueMade", spec := "valueMade", inPlace := ["math.Float64bits", "internal/bytealg.IndexByteString", "internal/bytealg.IndexString"], unfollowed := true, recurses := true, named := ["unicode/utf8.first", "unicode/utf8.acceptRanges", "internal/bytealg.MaxLen"], apart := false, laid := [("unicode/utf8.acceptRanges", laid_unicode_utf8_acceptRanges), ("unicode/utf8.first", laid_unicode_utf8_first)] }
def ValueMadeSaid : Prop := valueMadeRow.holds Tryd.pinned (OpenSpec.ofChange valueMadeSpec)

/-- ITS FALSE NEIGHBOUR: 'it returns false'. Refute it at one input. -/
def valueMadeWrong : ChangeSpec := { name := "valueMade", fn := fun _ => fun
  | [d1, d2] => { results := [.lit (.bool false)], args := [d1, d2] }
  | _ => none }
def ValueMadeWrongFalsely : Prop := valueMadeRow.holds Tryd.pinned (OpenSpec.ofChange valueMadeWrong)

/- THE SECOND FORM. 'bulk': how many values and letters a reading holds, each counted each time it is reached (what is shared counts as often as it is met; a slice's spare places count too). A statement '..UptoSaid' is the law's where the arguments, and the package variables that the reading takes, are together of bulk at most 1048576: NARROWER than '..Said'. Prove '..Said' where nothing that the law and all that it calls make is longer than what came in: it says more and counts as full. Else prove '..UptoSaid'. A law counts once. -/
mutual
def uptoBulk {H : Type} : DataW H → Nat
  | .lit (.string bytes) => bytes.length + 1
  | .lit _ => 1
  | .nil => 1
  | .ptr d => uptoBulk d + 1
  | .slice elems spare => uptoBulkAll elems + uptoBulkAll spare + 1
  | .agg parts => uptoBulkAll parts + 1
  | .iface _ d => uptoBulk d + 1
  | .map entries => uptoBulkEntries entries + 1
  | .held _ => 1
def uptoBulkAll {H : Type} : List (DataW H) → Nat
  | [] => 0
  | d :: r => uptoBulk d + uptoBulkAll r
def uptoBulkEntries {H : Type} : List (Lit × DataW H) → Nat
  | [] => 0
  | x :: r => uptoBulkEntry x + uptoBulkEntries r
def uptoBulkEntry {H : Type} : Lit × DataW H → Nat
  | (.string bytes, d) => bytes.length + uptoBulk d + 1
  | (_, d) => uptoBulk d + 1
 end
def uptoSmall : (H : Type) → List (DataW H) → Bool := fun _ ds => decide (uptoBulkAll ds ≤ 1048576)
def OpenSpec.upto (s : _root_.Go.ChangeSpec) : _root_.Go.OpenSpec := { _root_.Go.OpenSpec.ofChange s with cond := some uptoSmall }

/-- 'nearhandlaw03.ValueChecks', WHERE WHAT IT READS IS OF BULK AT MOST 1048576: true; the input reads as it did. -/
def valueChecksUptoRow : OpenClaim := { program := "ytapiinfnedhmoaadoor", sum := "e895226260f9a0c378588446e6fa521a19cfa8ba1e42d8a4fbb7d0e9b56eb165", func := "nearhand/nearhandlaw03.ValueChecks", spec := "valueChecks", inPlace := ["math.Float64bits", "internal/bytealg.IndexByteString", "internal/bytealg.IndexString"], recurses := true, named := ["unicode/utf8.first", "unicode/utf8.acceptRanges", "internal/bytealg.MaxLen"], loops := true, apart := false, laid := [("unicode/utf8.acceptRanges", laid_unicode_utf8_acceptRanges), ("unicode/utf8.first", laid_unicode_utf8_first)], narrowed := true }
def ValueChecksUptoSaid : Prop := valueChecksUptoRow.holds Tryd.pinned (OpenSpec.upto valueChecksSpec)

/-- 'nearhandlaw03.ValueParts', WHERE WHAT IT READS IS OF BULK AT MOST 1048576: true; the input reads as it did. -/
def valuePartsUptoRow : OpenClaim := { program := "ytapiinfnedhmoaadoor", sum := "e895226260f9a0c378588446e6fa521a19cfa8ba1e42d8a4fbb7d0e9b56eb165", func := "nearhand/nearhandlaw03.ValueParts", spec := "valueParts", inPlace := ["math.Float64bits", "internal/bytealg.IndexByteString", "internal/bytealg.IndexString"], recurses := true, named := ["unicode/utf8.first", "unicode/utf8.acceptRanges", "internal/bytealg.MaxLen"], loops := true, apart := false, laid := [("unicode/utf8.acceptRanges", laid_unicode_utf8_acceptRanges), ("unicode/utf8.first", laid_unicode_utf8_first)], narrowed := true }
def ValuePartsUptoSaid : Prop := valuePartsUptoRow.holds Tryd.pinned (OpenSpec.upto valuePartsSpec)

/-- 'nearhandlaw03.ValueDeep', WHERE WHAT IT READS IS OF BULK AT MOST 1048576: true; the input reads as it did. -/
def valueDeepUptoRow : OpenClaim := { program := "ytapiinfnedhmoaadoor", sum := "e895226260f9a0c378588446e6fa521a19cfa8ba1e42d8a4fbb7d0e9b56eb165", func := "nearhand/nearhandlaw03.ValueDeep", spec := "valueDeep", inPlace := ["math.Float64bits", "internal/bytealg.IndexByteString", "internal/bytealg.IndexString"], recurses := true, named := ["unicode/utf8.first", "unicode/utf8.acceptRanges", "internal/bytealg.MaxLen"], apart := false, laid := [("unicode/utf8.acceptRanges", laid_unicode_utf8_acceptRanges), ("unicode/utf8.first", laid_unicode_utf8_first)], narrowed := true }
def ValueDeepUptoSaid : Prop := valueDeepUptoRow.holds Tryd.pinned (OpenSpec.upto valueDeepSpec)

/-- 'nearhandlaw03.ValueNames', WHERE WHAT IT READS IS OF BULK AT MOST 1048576: true; the input reads as it did. -/
def valueNamesUptoRow : OpenClaim := { program := "ytapiinfnedhmoaadoor", sum := "e895226260f9a0c378588446e6fa521a19cfa8ba1e42d8a4fbb7d0e9b56eb165", func := "nearhand/nearhandlaw03.ValueNames", spec := "valueNames", inPlace := ["math.Float64bits", "internal/bytealg.IndexByteString", "internal/bytealg.IndexString"], recurses := true, named := ["unicode/utf8.first", "unicode/utf8.acceptRanges", "internal/bytealg.MaxLen"], apart := false, laid := [("unicode/utf8.acceptRanges", laid_unicode_utf8_acceptRanges), ("unicode/utf8.first", laid_unicode_utf8_first)], narrowed := true }
def ValueNamesUptoSaid : Prop := valueNamesUptoRow.holds Tryd.pinned (OpenSpec.upto valueNamesSpec)

/-- 'nearhandlaw03.ValueSame', WHERE WHAT IT READS IS OF BULK AT MOST 1048576: true; the input reads as it did. -/
def valueSameUptoRow : OpenClaim := { program := "ytapiinfnedhmoaadoor", sum := "e895226260f9a0c378588446e6fa521a19cfa8ba1e42d8a4fbb7d0e9b56eb165", func := "nearhand/nearhandlaw03.ValueSame", spec := "valueSame", inPlace := ["math.Float64bits", "internal/bytealg.IndexByteString", "internal/bytealg.IndexString"], unfollowed := true, recurses := true, named := ["unicode/utf8.first", "unicode/utf8.acceptRanges", "internal/bytealg.MaxLen"], loops := true, apart := false, laid := [("unicode/utf8.acceptRanges", laid_unicode_utf8_acceptRanges), ("unicode/utf8.first", laid_unicode_utf8_first)], narrowed := true }
def ValueSameUptoSaid : Prop := valueSameUptoRow.holds Tryd.pinned (OpenSpec.upto valueSameSpec)

/-- 'nearhandlaw03.ValueMade', WHERE WHAT IT READS IS OF BULK AT MOST 1048576: true; the input reads as it did. -/
def valueMadeUptoRow : OpenClaim := { program := "ytapiinfnedhmoaadoor", sum := "e895226260f9a0c378588446e6fa521a19cfa8ba1e42d8a4fbb7d0e9b56eb165", func := "nearhand/nearhandlaw03.ValueMade", spec := "valueMade", inPlace := ["math.Float64bits", "internal/bytealg.IndexByteString", "internal/bytealg.IndexString"], unfollowed := true, recurses := true, named := ["unicode/utf8.first", "unicode/utf8.acceptRanges", "internal/bytealg.MaxLen"], apart := false, laid := [("unicode/utf8.acceptRanges", laid_unicode_utf8_acceptRanges), ("unicode/utf8.first", laid_unicode_utf8_first)], narrowed := true }
def ValueMadeUptoSaid : Prop := valueMadeUptoRow.holds Tryd.pinned (OpenSpec.upto valueMadeSpec)

end Rows
end Go.Proofs.YtapiinfnedhmoaaDoor
