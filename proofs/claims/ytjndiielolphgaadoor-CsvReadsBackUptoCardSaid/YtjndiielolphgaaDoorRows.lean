/-
  NARROWER THAN 'FOR EVERY INPUT', by the rows' own cells (each row's printed sentence says how): CsvImportMatches: laid · CsvPrintMatches: laid · CsvReadsBack: laid.
  DERIVED. THE GIVEN ROWS OF THIS SEAT. 3 by the template 'for every input the law returns true; each argument reads behind the call as it read before'; 0 by the template 'total and deterministic' (their statements: YtjndiielolphgaaDoorTotals.lean).
  GIVEN WITH THE SEED: the statements are not yours to turn. If you find one false, say at which input.
  Laid BY PROGRAM, IN A SANDBOX (cutbox-rows.mjs): the forced cells as the released guide's own fill.sh prints them over the translation 6b89d5f34f5f4795… (all of the seat's roots in one cut). By AI agents, Wed Nov 11 2026. No macro, syntax, notation, axiom, sorry.
-/
import Derived.Test.YtjndiielolphgaaDoorChecked
import GoSem.PinnedTables
import GoSem.Claim
import GoSem.ClaimJoined
import GoSem.ClaimMapViews
import Derived.JoinedTies
import Derived.KernelRfl
namespace Go.Proofs.YtjndiielolphgaaDoor
/- THE CELL 'sum', in the pinned program and in every row, IS THE sha256 OF THE DUMP (.gsa) THAT YtjndiielolphgaaDoorProg.lean LOADS. Nothing in Lean hashes anything: it is a label: what it is worth is what the hold of that sum in a sandbox is worth. -/
noncomputable def Tryd.pinned : Pinned := { name := "ytjndiielolphgaadoor", sum := "6b89d5f34f5f479593dbd4c3d9fbd3600be6f12c07d2753dc238400438b5ae2b", checked := Tryd.checked }
namespace Rows
def none {H : Type} : Left H := { results := [], args := [] }

/- WHAT THE LISTED PACKAGE-LEVEL VARIABLES READ AS WHEN THE CALL BEGINS. Each datum BY PROGRAM (the guide's laid-datum.mjs) off the statement by which the dump's own 'gosem.cut.vars' lays the variable. In a bare row this is a premise. The card (YtjndiielolphgaaDoorCards.lean) ties it to the program's text. -/
def laid_unicode_utf8_acceptRanges {H : Type} : DataW H := .agg [.agg [.lit (.int .u8 128), .lit (.int .u8 191)], .agg [.lit (.int .u8 160), .lit (.int .u8 191)], .agg [.lit (.int .u8 128), .lit (.int .u8 159)], .agg [.lit (.int .u8 144), .lit (.int .u8 191)], .agg [.lit (.int .u8 128), .lit (.int .u8 143)], .agg [.lit (.int .u8 0), .lit (.int .u8 0)], .agg [.lit (.int .u8 0), .lit (.int .u8 0)], .agg [.lit (.int .u8 0), .lit (.int .u8 0)], .agg [.lit (.int .u8 0), .lit (.int .u8 0)], .agg [.lit (.int .u8 0), .lit (.int .u8 0)], .agg [.lit (.int .u8 0), .lit (.int .u8 0)], .agg [.lit (.int .u8 0), .lit (.int .u8 0)], .agg [.lit (.int .u8 0), .lit (.int .u8 0)], .agg [.lit (.int .u8 0), .lit (.int .u8 0)], .agg [.lit (.int .u8 0), .lit (.int .u8 0)], .agg [.lit (.int .u8 0), .lit (.int .u8 0)]]
/-- One of Go's own tables, pinned by name: the form's constant. -/
def laid_unicode_utf8_first : DataW Unit := Go.Pinned.utf8First

/-- 'chancerylaw2.CsvImportMatches': WHATEVER THE INPUT: true; the input reads as it did. -/
def csvImportMatchesSpec : ChangeSpec := { name := "csvImportMatches", fn := fun _ => fun
  | [d1, d2] => { results := [.lit (.bool true)], args := [d1, d2] }
  | _ => none }
def csvImportMatchesRow : OpenClaim := { program := "ytjndiielolphgaadoor", sum := "6b89d5f34f5f479593dbd4c3d9fbd3600be6f12c07d2753dc238400438b5ae2b", func := "chancery/chancerylaw2.CsvImportMatches", spec := "csvImportMatches", inPlace := ["internal/bytealg.IndexByteString", "internal/bytealg.IndexString", "internal/abi.NoEscape"], named := ["unicode/utf8.first", "unicode/utf8.acceptRanges", "internal/bytealg.MaxLen"], apart := false, laid := [("unicode/utf8.acceptRanges", laid_unicode_utf8_acceptRanges), ("unicode/utf8.first", laid_unicode_utf8_first)] }
def CsvImportMatchesSaid : Prop := csvImportMatchesRow.holds Tryd.pinned (OpenSpec.ofChange csvImportMatchesSpec)

/-- ITS FALSE NEIGHBOUR: 'it returns false'. Refute it at one input. -/
def csvImportMatchesWrong : ChangeSpec := { name := "csvImportMatches", fn := fun _ => fun
  | [d1, d2] => { results := [.lit (.bool false)], args := [d1, d2] }
  | _ => none }
def CsvImportMatchesWrongFalsely : Prop := csvImportMatchesRow.holds Tryd.pinned (OpenSpec.ofChange csvImportMatchesWrong)

/-- 'chancerylaw2.CsvPrintMatches': WHATEVER THE INPUT: true; the input reads as it did. -/
def csvPrintMatchesSpec : ChangeSpec := { name := "csvPrintMatches", fn := fun _ => fun
  | [d1, d2] => { results := [.lit (.bool true)], args := [d1, d2] }
  | _ => none }
def csvPrintMatchesRow : OpenClaim := { program := "ytjndiielolphgaadoor", sum := "6b89d5f34f5f479593dbd4c3d9fbd3600be6f12c07d2753dc238400438b5ae2b", func := "chancery/chancerylaw2.CsvPrintMatches", spec := "csvPrintMatches", inPlace := ["internal/bytealg.IndexByteString", "internal/bytealg.IndexString", "internal/abi.NoEscape", "internal/bytealg.CountString", "internal/bytealg.MakeNoZero"], unfollowed := true, recurses := true, named := ["internal/bytealg.MaxLen", "unicode/utf8.first", "unicode/utf8.acceptRanges"], apart := false, laid := [("unicode/utf8.acceptRanges", laid_unicode_utf8_acceptRanges), ("unicode/utf8.first", laid_unicode_utf8_first)] }
def CsvPrintMatchesSaid : Prop := csvPrintMatchesRow.holds Tryd.pinned (OpenSpec.ofChange csvPrintMatchesSpec)

/-- ITS FALSE NEIGHBOUR: 'it returns false'. Refute it at one input. -/
def csvPrintMatchesWrong : ChangeSpec := { name := "csvPrintMatches", fn := fun _ => fun
  | [d1, d2] => { results := [.lit (.bool false)], args := [d1, d2] }
  | _ => none }
def CsvPrintMatchesWrongFalsely : Prop := csvPrintMatchesRow.holds Tryd.pinned (OpenSpec.ofChange csvPrintMatchesWrong)

/-- 'chancerykeep2.CsvReadsBack': WHATEVER THE INPUT: true; the input reads as it did. -/
def csvReadsBackSpec : ChangeSpec := { name := "csvReadsBack", fn := fun _ => fun
  | [d1, d2] => { results := [.lit (.bool true)], args := [d1, d2] }
  | _ => none }
def csvReadsBackRow : OpenClaim := { program := "ytjndiielolphgaadoor", sum := "6b89d5f34f5f479593dbd4c3d9fbd3600be6f12c07d2753dc238400438b5ae2b", func := "chancery/chancerykeep2.CsvReadsBack", spec := "csvReadsBack", inPlace := ["internal/abi.NoEscape", "internal/bytealg.IndexByteString", "internal/bytealg.IndexString", "internal/bytealg.CountString", "internal/bytealg.MakeNoZero"], unfollowed := true, recurses := true, named := ["internal/bytealg.MaxLen", "unicode/utf8.first", "unicode/utf8.acceptRanges"], apart := false, laid := [("unicode/utf8.acceptRanges", laid_unicode_utf8_acceptRanges), ("unicode/utf8.first", laid_unicode_utf8_first)] }
def CsvReadsBackSaid : Prop := csvReadsBackRow.holds Tryd.pinned (OpenSpec.ofChange csvReadsBackSpec)

/-- ITS FALSE NEIGHBOUR: 'it returns false'. Refute it at one input. -/
def csvReadsBackWrong : ChangeSpec := { name := "csvReadsBack", fn := fun _ => fun
  | [d1, d2] => { results := [.lit (.bool false)], args := [d1, d2] }
  | _ => none }
def CsvReadsBackWrongFalsely : Prop := csvReadsBackRow.holds Tryd.pinned (OpenSpec.ofChange csvReadsBackWrong)

/- THE SECOND FORM. 'bulk': how many values and letters a reading holds, each counted each time it is reached (what is shared counts as often as it is met; a slice's spare places count too). A statement '..UptoSaid' is the law's where the arguments, and the package variables that the reading takes, are together of bulk at most 1048576: NARROWER than '..Said'. Prove '..Said' where nothing that the law and all that it calls make is longer than what came in: it says more and counts as full. Else prove '..UptoSaid'. A law counts once. -/
mutual
def uptoBulk {H : Type} : DataW H → Nat
  | .lit (.string bytes) => bytes.length + 1
  | .lit _ => 1
  | .nil => 1
  | .ptr d => uptoBulk d + 1
  | .slice elems spare => uptoBulkAll elems + uptoBulkAll spare + 1
  | .agg parts => uptoBulkAll parts + 1
  | .iface _ d => uptoBulk d + 1
  | .map entries => uptoBulkEntries entries + 1
  | .held _ => 1
def uptoBulkAll {H : Type} : List (DataW H) → Nat
  | [] => 0
  | d :: r => uptoBulk d + uptoBulkAll r
def uptoBulkEntries {H : Type} : List (Lit × DataW H) → Nat
  | [] => 0
  | x :: r => uptoBulkEntry x + uptoBulkEntries r
def uptoBulkEntry {H : Type} : Lit × DataW H → Nat
  | (.string bytes, d) => bytes.length + uptoBulk d + 1
  | (_, d) => uptoBulk d + 1
 end
def uptoSmall : (H : Type) → List (DataW H) → Bool := fun _ ds => decide (uptoBulkAll ds ≤ 1048576)
def OpenSpec.upto (s : _root_.Go.ChangeSpec) : _root_.Go.OpenSpec := { _root_.Go.OpenSpec.ofChange s with cond := some uptoSmall }

/-- 'chancerylaw2.CsvImportMatches', WHERE WHAT IT READS IS OF BULK AT MOST 1048576: true; the input reads as it did. -/
def csvImportMatchesUptoRow : OpenClaim := { program := "ytjndiielolphgaadoor", sum := "6b89d5f34f5f479593dbd4c3d9fbd3600be6f12c07d2753dc238400438b5ae2b", func := "chancery/chancerylaw2.CsvImportMatches", spec := "csvImportMatches", inPlace := ["internal/bytealg.IndexByteString", "internal/bytealg.IndexString", "internal/abi.NoEscape"], named := ["unicode/utf8.first", "unicode/utf8.acceptRanges", "internal/bytealg.MaxLen"], apart := false, laid := [("unicode/utf8.acceptRanges", laid_unicode_utf8_acceptRanges), ("unicode/utf8.first", laid_unicode_utf8_first)], narrowed := true }
def CsvImportMatchesUptoSaid : Prop := csvImportMatchesUptoRow.holds Tryd.pinned (OpenSpec.upto csvImportMatchesSpec)

/-- 'chancerylaw2.CsvPrintMatches', WHERE WHAT IT READS IS OF BULK AT MOST 1048576: true; the input reads as it did. -/
def csvPrintMatchesUptoRow : OpenClaim := { program := "ytjndiielolphgaadoor", sum := "6b89d5f34f5f479593dbd4c3d9fbd3600be6f12c07d2753dc238400438b5ae2b", func := "chancery/chancerylaw2.CsvPrintMatches", spec := "csvPrintMatches", inPlace := ["internal/bytealg.IndexByteString", "internal/bytealg.IndexString", "internal/abi.NoEscape", "internal/bytealg.CountString", "internal/bytealg.MakeNoZero"], unfollowed := true, recurses := true, named := ["internal/bytealg.MaxLen", "unicode/utf8.first", "unicode/utf8.acceptRanges"], apart := false, laid := [("unicode/utf8.acceptRanges", laid_unicode_utf8_acceptRanges), ("unicode/utf8.first", laid_unicode_utf8_first)], narrowed := true }
def CsvPrintMatchesUptoSaid : Prop := csvPrintMatchesUptoRow.holds Tryd.pinned (OpenSpec.upto csvPrintMatchesSpec)

/-- 'chancerykeep2.CsvReadsBack', WHERE WHAT IT READS IS OF BULK AT MOST 1048576: true; the input reads as it did. -/
def csvReadsBackUptoRow : OpenClaim := { program := "ytjndiielolphgaadoor", sum := "6b89d5f34f5f479593dbd4c3d9fbd3600be6f12c07d2753dc238400438b5ae2b", func := "chancery/chancerykeep2.CsvReadsBack", spec := "csvReadsBack", inPlace := ["internal/abi.NoEscape", "internal/bytealg.IndexByteString", "internal/bytealg.IndexString", "internal/bytealg.CountString", "internal/bytealg.MakeNoZero"], unfollowed := true, recurses := true, named := ["internal/bytealg.MaxLen", "unicode/utf8.first", "unicode/utf8.acceptRanges"], apart := false, laid := [("unicode/utf8.acceptRanges", laid_unicode_utf8_acceptRanges), ("unicode/utf8.first", laid_unicode_utf8_first)], narrowed := true }
def CsvReadsBackUptoSaid : Prop := csvReadsBackUptoRow.holds Tryd.pinned (OpenSpec.upto csvReadsBackSpec)

end Rows
end Go.Proofs.YtjndiielolphgaaDoor
