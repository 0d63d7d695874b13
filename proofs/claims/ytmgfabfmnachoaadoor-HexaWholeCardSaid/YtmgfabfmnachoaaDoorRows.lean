/-
  NARROWER THAN 'FOR EVERY INPUT', by the rows' own cells (each row's printed sentence says how): HexaAll: laid · HexaBack: laid · HexaWhole: laid · HexaRefuses: laid.
  DERIVED. THE GIVEN ROWS OF THIS SEAT. 4 by the template 'for every input the law returns true; each argument reads behind the call as it read before'; 0 by the template 'total and deterministic' (their statements: YtmgfabfmnachoaaDoorTotals.lean).
  GIVEN WITH THE SEED: the statements are not yours to turn. If you find one false, say at which input.
  Laid BY PROGRAM, IN A SANDBOX (cutbox-rows.mjs): the forced cells as the released guide's own fill.sh prints them over the translation 81e81bb3688dbe35… (all of the seat's roots in one cut). By AI agents, Wed Nov 11 2026. No macro, syntax, notation, axiom, sorry.
-/
import Derived.Test.YtmgfabfmnachoaaDoorChecked
import GoSem.PinnedTables
import GoSem.Claim
import GoSem.ClaimJoined
import GoSem.ClaimMapViews
import Derived.JoinedTies
import Derived.KernelRfl
namespace Go.Proofs.YtmgfabfmnachoaaDoor
/- THE CELL 'sum', in the pinned program and in every row, IS THE sha256 OF THE DUMP (.gsa) THAT YtmgfabfmnachoaaDoorProg.lean LOADS. Nothing in Lean hashes anything: it is a label: what it is worth is what the hold of that sum in a sandbox is worth. -/
noncomputable def Tryd.pinned : Pinned := { name := "ytmgfabfmnachoaadoor", sum := "81e81bb3688dbe35e50d4c6869a3fa894b9b071d0ce02500862ac56ca324d6bc", checked := Tryd.checked }
namespace Rows
def none {H : Type} : Left H := { results := [], args := [] }

/- WHAT THE LISTED PACKAGE-LEVEL VARIABLES READ AS WHEN THE CALL BEGINS. Each datum BY PROGRAM (the guide's laid-datum.mjs) off the statement by which the dump's own 'gosem.cut.vars' lays the variable. In a bare row this is a premise. The card (YtmgfabfmnachoaaDoorCards.lean) ties it to the program's text. -/
def laid_unicode_utf8_acceptRanges {H : Type} : DataW H := .agg [.agg [.lit (.int .u8 128), .lit (.int .u8 191)], .agg [.lit (.int .u8 160), .lit (.int .u8 191)], .agg [.lit (.int .u8 128), .lit (.int .u8 159)], .agg [.lit (.int .u8 144), .lit (.int .u8 191)], .agg [.lit (.int .u8 128), .lit (.int .u8 143)], .agg [.lit (.int .u8 0), .lit (.int .u8 0)], .agg [.lit (.int .u8 0), .lit (.int .u8 0)], .agg [.lit (.int .u8 0), .lit (.int .u8 0)], .agg [.lit (.int .u8 0), .lit (.int .u8 0)], .agg [.lit (.int .u8 0), .lit (.int .u8 0)], .agg [.lit (.int .u8 0), .lit (.int .u8 0)], .agg [.lit (.int .u8 0), .lit (.int .u8 0)], .agg [.lit (.int .u8 0), .lit (.int .u8 0)], .agg [.lit (.int .u8 0), .lit (.int .u8 0)], .agg [.lit (.int .u8 0), .lit (.int .u8 0)], .agg [.lit (.int .u8 0), .lit (.int .u8 0)]]
/-- One of Go's own tables, pinned by name: the form's constant. -/
def laid_unicode_utf8_first : DataW Unit := Go.Pinned.utf8First

/-- 'perigeelaw3.HexaAll': WHATEVER THE INPUT: true; the input reads as it did. -/
def hexaAllSpec : ChangeSpec := { name := "hexaAll", fn := fun _ => fun
  | [d1, d2] => { results := [.lit (.bool true)], args := [d1, d2] }
  | _ => none }
def hexaAllRow : OpenClaim := { program := "ytmgfabfmnachoaadoor", sum := "81e81bb3688dbe35e50d4c6869a3fa894b9b071d0ce02500862ac56ca324d6bc", func := "perigee/perigeelaw3.HexaAll", spec := "hexaAll", inPlace := ["internal/bytealg.IndexByteString", "internal/bytealg.IndexString", "math/bits.Sub64"], named := ["internal/bytealg.MaxLen", "unicode/utf8.first", "unicode/utf8.acceptRanges"], apart := false, laid := [("unicode/utf8.acceptRanges", laid_unicode_utf8_acceptRanges), ("unicode/utf8.first", laid_unicode_utf8_first)] }
def HexaAllSaid : Prop := hexaAllRow.holds Tryd.pinned (OpenSpec.ofChange hexaAllSpec)

/-- ITS FALSE NEIGHBOUR: 'it returns false'. Refute it at one input. -/
def hexaAllWrong : ChangeSpec := { name := "hexaAll", fn := fun _ => fun
  | [d1, d2] => { results := [.lit (.bool false)], args := [d1, d2] }
  | _ => none }
def HexaAllWrongFalsely : Prop := hexaAllRow.holds Tryd.pinned (OpenSpec.ofChange hexaAllWrong)

/-- 'perigeelaw3.HexaBack': WHATEVER THE INPUT: true; the input reads as it did. -/
def hexaBackSpec : ChangeSpec := { name := "hexaBack", fn := fun _ => fun
  | [d1, d2, d3] => { results := [.lit (.bool true)], args := [d1, d2, d3] }
  | _ => none }
def hexaBackRow : OpenClaim := { program := "ytmgfabfmnachoaadoor", sum := "81e81bb3688dbe35e50d4c6869a3fa894b9b071d0ce02500862ac56ca324d6bc", func := "perigee/perigeelaw3.HexaBack", spec := "hexaBack", inPlace := ["math/bits.Sub64", "internal/bytealg.IndexByteString", "internal/bytealg.IndexString"], named := ["unicode/utf8.first", "unicode/utf8.acceptRanges", "internal/bytealg.MaxLen"], apart := false, laid := [("unicode/utf8.acceptRanges", laid_unicode_utf8_acceptRanges), ("unicode/utf8.first", laid_unicode_utf8_first)] }
def HexaBackSaid : Prop := hexaBackRow.holds Tryd.pinned (OpenSpec.ofChange hexaBackSpec)

/-- ITS FALSE NEIGHBOUR: 'it returns false'. Refute it at one input. -/
def hexaBackWrong : ChangeSpec := { name := "hexaBack", fn := fun _ => fun
  | [d1, d2, d3] => { results := [.lit (.bool false)], args := [d1, d2, d3] }
  | _ => none }
def HexaBackWrongFalsely : Prop := hexaBackRow.holds Tryd.pinned (OpenSpec.ofChange hexaBackWrong)

/-- 'perigeelaw3.HexaWhole': WHATEVER THE INPUT: true; the input reads as it did. -/
def hexaWholeSpec : ChangeSpec := { name := "hexaWhole", fn := fun _ => fun
  | [d1, d2] => { results := [.lit (.bool true)], args := [d1, d2] }
  | _ => none }
def hexaWholeRow : OpenClaim := { program := "ytmgfabfmnachoaadoor", sum := "81e81bb3688dbe35e50d4c6869a3fa894b9b071d0ce02500862ac56ca324d6bc", func := "perigee/perigeelaw3.HexaWhole", spec := "hexaWhole", inPlace := ["math/bits.Sub64", "internal/bytealg.IndexByteString", "internal/bytealg.IndexString"], named := ["unicode/utf8.first", "unicode/utf8.acceptRanges", "internal/bytealg.MaxLen"], apart := false, laid := [("unicode/utf8.acceptRanges", laid_unicode_utf8_acceptRanges), ("unicode/utf8.first", laid_unicode_utf8_first)] }
def HexaWholeSaid : Prop := hexaWholeRow.holds Tryd.pinned (OpenSpec.ofChange hexaWholeSpec)

/-- ITS FALSE NEIGHBOUR: 'it returns false'. Refute it at one input. -/
def hexaWholeWrong : ChangeSpec := { name := "hexaWhole", fn := fun _ => fun
  | [d1, d2] => { results := [.lit (.bool false)], args := [d1, d2] }
  | _ => none }
def HexaWholeWrongFalsely : Prop := hexaWholeRow.holds Tryd.pinned (OpenSpec.ofChange hexaWholeWrong)

/-- 'perigeelaw3.HexaRefuses': WHATEVER THE INPUT: true; the input reads as it did. -/
def hexaRefusesSpec : ChangeSpec := { name := "hexaRefuses", fn := fun _ => fun
  | [d1, d2] => { results := [.lit (.bool true)], args := [d1, d2] }
  | _ => none }
def hexaRefusesRow : OpenClaim := { program := "ytmgfabfmnachoaadoor", sum := "81e81bb3688dbe35e50d4c6869a3fa894b9b071d0ce02500862ac56ca324d6bc", func := "perigee/perigeelaw3.HexaRefuses", spec := "hexaRefuses", inPlace := ["internal/bytealg.IndexByteString", "internal/bytealg.IndexString", "math/bits.Sub64"], named := ["internal/bytealg.MaxLen", "unicode/utf8.first", "unicode/utf8.acceptRanges"], apart := false, laid := [("unicode/utf8.acceptRanges", laid_unicode_utf8_acceptRanges), ("unicode/utf8.first", laid_unicode_utf8_first)] }
def HexaRefusesSaid : Prop := hexaRefusesRow.holds Tryd.pinned (OpenSpec.ofChange hexaRefusesSpec)

/-- ITS FALSE NEIGHBOUR: 'it returns false'. Refute it at one input. -/
def hexaRefusesWrong : ChangeSpec := { name := "hexaRefuses", fn := fun _ => fun
  | [d1, d2] => { results := [.lit (.bool false)], args := [d1, d2] }
  | _ => none }
def HexaRefusesWrongFalsely : Prop := hexaRefusesRow.holds Tryd.pinned (OpenSpec.ofChange hexaRefusesWrong)

/- THE SECOND FORM. 'bulk': how many values and letters a reading holds, each counted each time it is reached (what is shared counts as often as it is met; a slice's spare places count too). A statement '..UptoSaid' is the law's where the arguments, and the package variables that the reading takes, are together of bulk at most 1048576: NARROWER than '..Said'. Prove '..Said' where nothing that the law and all that it calls make is longer than what came in: it says more and counts as full. Else prove '..UptoSaid'. A law counts once. -/
mutual
def uptoBulk {H : Type} : DataW H → Nat
  | .lit (.string bytes) => bytes.length + 1
  | .lit _ => 1
  | .nil => 1
  | .ptr d => uptoBulk d + 1
  | .slice elems spare => uptoBulkAll elems + uptoBulkAll spare + 1
  | .agg parts => uptoBulkAll parts + 1
  | .iface _ d => uptoBulk d + 1
  | .map entries => uptoBulkEntries entries + 1
  | .held _ => 1
def uptoBulkAll {H : Type} : List (DataW H) → Nat
  | [] => 0
  | d :: r => uptoBulk d + uptoBulkAll r
def uptoBulkEntries {H : Type} : List (Lit × DataW H) → Nat
  | [] => 0
  | x :: r => uptoBulkEntry x + uptoBulkEntries r
def uptoBulkEntry {H : Type} : Lit × DataW H → Nat
  | (.string bytes, d) => bytes.length + uptoBulk d + 1
  | (_, d) => uptoBulk d + 1
 end
def uptoSmall : (H : Type) → List (DataW H) → Bool := fun _ ds => decide (uptoBulkAll ds ≤ 1048576)
def OpenSpec.upto (s : _root_.Go.ChangeSpec) : _root_.Go.OpenSpec := { _root_.Go.OpenSpec.ofChange s with cond := some uptoSmall }

/-- 'perigeelaw3.HexaAll', WHERE WHAT IT READS IS OF BULK AT MOST 1048576: true; the input reads as it did. -/
def hexaAllUptoRow : OpenClaim := { program := "ytmgfabfmnachoaadoor", sum := "81e81bb3688dbe35e50d4c6869a3fa894b9b071d0ce02500862ac56ca324d6bc", func := "perigee/perigeelaw3.HexaAll", spec := "hexaAll", inPlace := ["internal/bytealg.IndexByteString", "internal/bytealg.IndexString", "math/bits.Sub64"], named := ["internal/bytealg.MaxLen", "unicode/utf8.first", "unicode/utf8.acceptRanges"], apart := false, laid := [("unicode/utf8.acceptRanges", laid_unicode_utf8_acceptRanges), ("unicode/utf8.first", laid_unicode_utf8_first)], narrowed := true }
def HexaAllUptoSaid : Prop := hexaAllUptoRow.holds Tryd.pinned (OpenSpec.upto hexaAllSpec)

/-- 'perigeelaw3.HexaBack', WHERE WHAT IT READS IS OF BULK AT MOST 1048576: true; the input reads as it did. -/
def hexaBackUptoRow : OpenClaim := { program := "ytmgfabfmnachoaadoor", sum := "81e81bb3688dbe35e50d4c6869a3fa894b9b071d0ce02500862ac56ca324d6bc", func := "perigee/perigeelaw3.HexaBack", spec := "hexaBack", inPlace := ["math/bits.Sub64", "internal/bytealg.IndexByteString", "internal/bytealg.IndexString"], named := ["unicode/utf8.first", "unicode/utf8.acceptRanges", "internal/bytealg.MaxLen"], apart := false, laid := [("unicode/utf8.acceptRanges", laid_unicode_utf8_acceptRanges), ("unicode/utf8.first", laid_unicode_utf8_first)], narrowed := true }
def HexaBackUptoSaid : Prop := hexaBackUptoRow.holds Tryd.pinned (OpenSpec.upto hexaBackSpec)

/-- 'perigeelaw3.HexaWhole', WHERE WHAT IT READS IS OF BULK AT MOST 1048576: true; the input reads as it did. -/
def hexaWholeUptoRow : OpenClaim := { program := "ytmgfabfmnachoaadoor", sum := "81e81bb3688dbe35e50d4c6869a3fa894b9b071d0ce02500862ac56ca324d6bc", func := "perigee/perigeelaw3.HexaWhole", spec := "hexaWhole", inPlace := ["math/bits.Sub64", "internal/bytealg.IndexByteString", "internal/bytealg.IndexString"], named := ["unicode/utf8.first", "unicode/utf8.acceptRanges", "internal/bytealg.MaxLen"], apart := false, laid := [("unicode/utf8.acceptRanges", laid_unicode_utf8_acceptRanges), ("unicode/utf8.first", laid_unicode_utf8_first)], narrowed := true }
def HexaWholeUptoSaid : Prop := hexaWholeUptoRow.holds Tryd.pinned (OpenSpec.upto hexaWholeSpec)

/-- 'perigeelaw3.HexaRefuses', WHERE WHAT IT READS IS OF BULK AT MOST 1048576: true; the input reads as it did. -/
def hexaRefusesUptoRow : OpenClaim := { program := "ytmgfabfmnachoaadoor", sum := "81e81bb3688dbe35e50d4c6869a3fa894b9b071d0ce02500862ac56ca324d6bc", func := "perigee/perigeelaw3.HexaRefuses", spec := "hexaRefuses", inPlace := ["internal/bytealg.IndexByteString", "internal/bytealg.IndexString", "math/bits.Sub64"], named := ["internal/bytealg.MaxLen", "unicode/utf8.first", "unicode/utf8.acceptRanges"], apart := false, laid := [("unicode/utf8.acceptRanges", laid_unicode_utf8_acceptRanges), ("unicode/utf8.first", laid_unicode_utf8_first)], narrowed := true }
def HexaRefusesUptoSaid : Prop := hexaRefusesUptoRow.holds Tryd.pinned (OpenSpec.upto hexaRefusesSpec)

end Rows
end Go.Proofs.YtmgfabfmnachoaaDoor
