/-
  No cell of these rows narrows 'for every input' (looked for: loops, veiled, ifaces, maps, wideKeys, modest, calm, conditions, laid).
  DERIVED. THE GIVEN ROWS OF THIS SEAT. 7 by the template 'for every input the law returns true; each argument reads behind the call as it read before'; 0 by the template 'total and deterministic' (their statements: YtedfbamihjnhhaaTotals.lean).
  GIVEN WITH THE SEED: the statements are not yours to turn. If you find one false, say at which input.
  Laid BY PROGRAM, IN A SANDBOX (cutbox-rows.mjs): the forced cells as the released guide's own fill.sh prints them over the translation 35100a5ab60996ff… (all of the seat's roots in one cut). By AI agents, Wed Nov 11 2026. No macro, syntax, notation, axiom, sorry.
-/
import Derived.Test.YtedfbamihjnhhaaChecked
import GoSem.Claim
import GoSem.ClaimJoined
import GoSem.ClaimMapViews
import Derived.JoinedTies
import Derived.KernelRfl
namespace Go.Proofs.Ytedfbamihjnhhaa
/- THE CELL 'sum', in the pinned program and in every row, IS THE sha256 OF THE DUMP (.gsa) THAT YtedfbamihjnhhaaProg.lean LOADS. Nothing in Lean hashes anything: it is a label: what it is worth is what the hold of that sum in a sandbox is worth. -/
noncomputable def Try.pinned : Pinned := { name := "ytedfbamihjnhhaa", sum := "35100a5ab60996ffa92866cc3b527b597417d70b2214c7f949ae3288d7a0d0d5", checked := Try.checked }
namespace Rows
def none {H : Type} : Left H := { results := [], args := [] }

/-- 'perigeelaw22.LedgerAll': WHATEVER THE INPUT: true; the input reads as it did. -/
def ledgerAllSpec : ChangeSpec := { name := "ledgerAll", fn := fun _ => fun
  | [d] => { results := [.lit (.bool true)], args := [d] }
  | _ => none }
def ledgerAllRow : OpenClaim := { program := "ytedfbamihjnhhaa", sum := "35100a5ab60996ffa92866cc3b527b597417d70b2214c7f949ae3288d7a0d0d5", func := "perigee/perigeelaw22.LedgerAll", spec := "ledgerAll", inPlace := ["math/bits.Sub64", "math/bits.Add64"], unfollowed := true, recurses := true, apart := false }
def LedgerAllSaid : Prop := ledgerAllRow.holds Try.pinned (OpenSpec.ofChange ledgerAllSpec)

/-- ITS FALSE NEIGHBOUR: 'it returns false'. Refute it at one input. -/
def ledgerAllWrong : ChangeSpec := { name := "ledgerAll", fn := fun _ => fun
  | [d] => { results := [.lit (.bool false)], args := [d] }
  | _ => none }
def LedgerAllWrongFalsely : Prop := ledgerAllRow.holds Try.pinned (OpenSpec.ofChange ledgerAllWrong)

/-- 'perigeelaw22.LedgerOrder': WHATEVER THE INPUT: true; the input reads as it did. -/
def ledgerOrderSpec : ChangeSpec := { name := "ledgerOrder", fn := fun _ => fun
  | [d1, d2, d3] => { results := [.lit (.bool true)], args := [d1, d2, d3] }
  | _ => none }
def ledgerOrderRow : OpenClaim := { program := "ytedfbamihjnhhaa", sum := "35100a5ab60996ffa92866cc3b527b597417d70b2214c7f949ae3288d7a0d0d5", func := "perigee/perigeelaw22.LedgerOrder", spec := "ledgerOrder", inPlace := ["math/bits.Sub64", "math/bits.Add64"], unfollowed := true, recurses := true, apart := false }
def LedgerOrderSaid : Prop := ledgerOrderRow.holds Try.pinned (OpenSpec.ofChange ledgerOrderSpec)

/-- ITS FALSE NEIGHBOUR: 'it returns false'. Refute it at one input. -/
def ledgerOrderWrong : ChangeSpec := { name := "ledgerOrder", fn := fun _ => fun
  | [d1, d2, d3] => { results := [.lit (.bool false)], args := [d1, d2, d3] }
  | _ => none }
def LedgerOrderWrongFalsely : Prop := ledgerOrderRow.holds Try.pinned (OpenSpec.ofChange ledgerOrderWrong)

/-- 'perigeelaw23.WorldEdges': WHATEVER THE INPUT: true; the input reads as it did. -/
def worldEdgesSpec : ChangeSpec := { name := "worldEdges", fn := fun _ => fun
  | [d] => { results := [.lit (.bool true)], args := [d] }
  | _ => none }
def worldEdgesRow : OpenClaim := { program := "ytedfbamihjnhhaa", sum := "35100a5ab60996ffa92866cc3b527b597417d70b2214c7f949ae3288d7a0d0d5", func := "perigee/perigeelaw23.WorldEdges", spec := "worldEdges", inPlace := ["math/bits.Sub64", "math/bits.Add64"], unfollowed := true, recurses := true, apart := false }
def WorldEdgesSaid : Prop := worldEdgesRow.holds Try.pinned (OpenSpec.ofChange worldEdgesSpec)

/-- ITS FALSE NEIGHBOUR: 'it returns false'. Refute it at one input. -/
def worldEdgesWrong : ChangeSpec := { name := "worldEdges", fn := fun _ => fun
  | [d] => { results := [.lit (.bool false)], args := [d] }
  | _ => none }
def WorldEdgesWrongFalsely : Prop := worldEdgesRow.holds Try.pinned (OpenSpec.ofChange worldEdgesWrong)

/-- 'perigeelaw23.WorldLists': WHATEVER THE INPUT: true; the input reads as it did. -/
def worldListsSpec : ChangeSpec := { name := "worldLists", fn := fun _ => fun
  | [d1, d2] => { results := [.lit (.bool true)], args := [d1, d2] }
  | _ => none }
def worldListsRow : OpenClaim := { program := "ytedfbamihjnhhaa", sum := "35100a5ab60996ffa92866cc3b527b597417d70b2214c7f949ae3288d7a0d0d5", func := "perigee/perigeelaw23.WorldLists", spec := "worldLists", inPlace := ["math/bits.Sub64", "math/bits.Add64"], unfollowed := true, recurses := true, apart := false }
def WorldListsSaid : Prop := worldListsRow.holds Try.pinned (OpenSpec.ofChange worldListsSpec)

/-- ITS FALSE NEIGHBOUR: 'it returns false'. Refute it at one input. -/
def worldListsWrong : ChangeSpec := { name := "worldLists", fn := fun _ => fun
  | [d1, d2] => { results := [.lit (.bool false)], args := [d1, d2] }
  | _ => none }
def WorldListsWrongFalsely : Prop := worldListsRow.holds Try.pinned (OpenSpec.ofChange worldListsWrong)

/-- 'perigeelaw23.WorldMade': WHATEVER THE INPUT: true; the input reads as it did. -/
def worldMadeSpec : ChangeSpec := { name := "worldMade", fn := fun _ => fun
  | [d1, d2, d3, d4, d5] => { results := [.lit (.bool true)], args := [d1, d2, d3, d4, d5] }
  | _ => none }
def worldMadeRow : OpenClaim := { program := "ytedfbamihjnhhaa", sum := "35100a5ab60996ffa92866cc3b527b597417d70b2214c7f949ae3288d7a0d0d5", func := "perigee/perigeelaw23.WorldMade", spec := "worldMade", inPlace := ["math/bits.Sub64", "math/bits.Add64"], unfollowed := true, recurses := true, apart := false }
def WorldMadeSaid : Prop := worldMadeRow.holds Try.pinned (OpenSpec.ofChange worldMadeSpec)

/-- ITS FALSE NEIGHBOUR: 'it returns false'. Refute it at one input. -/
def worldMadeWrong : ChangeSpec := { name := "worldMade", fn := fun _ => fun
  | [d1, d2, d3, d4, d5] => { results := [.lit (.bool false)], args := [d1, d2, d3, d4, d5] }
  | _ => none }
def WorldMadeWrongFalsely : Prop := worldMadeRow.holds Try.pinned (OpenSpec.ofChange worldMadeWrong)

/-- 'perigeelaw23.WorldTurned': WHATEVER THE INPUT: true; the input reads as it did. -/
def worldTurnedSpec : ChangeSpec := { name := "worldTurned", fn := fun _ => fun
  | [d1, d2, d3, d4, d5, d6, d7] => { results := [.lit (.bool true)], args := [d1, d2, d3, d4, d5, d6, d7] }
  | _ => none }
def worldTurnedRow : OpenClaim := { program := "ytedfbamihjnhhaa", sum := "35100a5ab60996ffa92866cc3b527b597417d70b2214c7f949ae3288d7a0d0d5", func := "perigee/perigeelaw23.WorldTurned", spec := "worldTurned", inPlace := ["math/bits.Sub64", "math/bits.Add64"], unfollowed := true, recurses := true, apart := false }
def WorldTurnedSaid : Prop := worldTurnedRow.holds Try.pinned (OpenSpec.ofChange worldTurnedSpec)

/-- ITS FALSE NEIGHBOUR: 'it returns false'. Refute it at one input. -/
def worldTurnedWrong : ChangeSpec := { name := "worldTurned", fn := fun _ => fun
  | [d1, d2, d3, d4, d5, d6, d7] => { results := [.lit (.bool false)], args := [d1, d2, d3, d4, d5, d6, d7] }
  | _ => none }
def WorldTurnedWrongFalsely : Prop := worldTurnedRow.holds Try.pinned (OpenSpec.ofChange worldTurnedWrong)

/-- 'perigeelaw24.CodecSizes': WHATEVER THE INPUT: true; the input reads as it did. -/
def codecSizesSpec : ChangeSpec := { name := "codecSizes", fn := fun _ => fun
  | [d1, d2, d3, d4, d5] => { results := [.lit (.bool true)], args := [d1, d2, d3, d4, d5] }
  | _ => none }
def codecSizesRow : OpenClaim := { program := "ytedfbamihjnhhaa", sum := "35100a5ab60996ffa92866cc3b527b597417d70b2214c7f949ae3288d7a0d0d5", func := "perigee/perigeelaw24.CodecSizes", spec := "codecSizes", inPlace := ["math/bits.Sub64", "math/bits.Add64", "internal/abi.NoEscape"], unfollowed := true, recurses := true, apart := false }
def CodecSizesSaid : Prop := codecSizesRow.holds Try.pinned (OpenSpec.ofChange codecSizesSpec)

/-- ITS FALSE NEIGHBOUR: 'it returns false'. Refute it at one input. -/
def codecSizesWrong : ChangeSpec := { name := "codecSizes", fn := fun _ => fun
  | [d1, d2, d3, d4, d5] => { results := [.lit (.bool false)], args := [d1, d2, d3, d4, d5] }
  | _ => none }
def CodecSizesWrongFalsely : Prop := codecSizesRow.holds Try.pinned (OpenSpec.ofChange codecSizesWrong)

/- THE SECOND FORM. 'bulk': how many values and letters a reading holds, each counted each time it is reached (what is shared counts as often as it is met; a slice's spare places count too). A statement '..UptoSaid' is the law's where the arguments, and the package variables that the reading takes, are together of bulk at most 1048576: NARROWER than '..Said'. Prove '..Said' where nothing that the law and all that it calls make is longer than what came in: it says more and counts as full. Else prove '..UptoSaid'. A law counts once. -/
mutual
def uptoBulk {H : Type} : DataW H → Nat
  | .lit (.string bytes) => bytes.length + 1
  | .lit _ => 1
  | .nil => 1
  | .ptr d => uptoBulk d + 1
  | .slice elems spare => uptoBulkAll elems + uptoBulkAll spare + 1
  | .agg parts => uptoBulkAll parts + 1
  | .iface _ d => uptoBulk d + 1
  | .map entries => uptoBulkEntries entries + 1
  | .held _ => 1
def uptoBulkAll {H : Type} : List (DataW H) → Nat
  | [] => 0
  | d :: r => uptoBulk d + uptoBulkAll r
def uptoBulkEntries {H : Type} : List (Lit × DataW H) → Nat
  | [] => 0
  | x :: r => uptoBulkEntry x + uptoBulkEntries r
def uptoBulkEntry {H : Type} : Lit × DataW H → Nat
  | (.string bytes, d) => bytes.length + uptoBulk d + 1
  | (_, d) => uptoBulk d + 1
 end
def uptoSmall : (H : Type) → List (DataW H) → Bool := fun _ ds => decide (uptoBulkAll ds ≤ 1048576)
def OpenSpec.upto (s : _root_.Go.ChangeSpec) : _root_.Go.OpenSpec := { _root_.Go.OpenSpec.ofChange s with cond := some uptoSmall }

/-- 'perigeelaw22.LedgerAll', WHERE WHAT IT READS IS OF BULK AT MOST 1048576: true; the input reads as it did. -/
def ledgerAllUptoRow : OpenClaim := { program := "ytedfbamihjnhhaa", sum := "35100a5ab60996ffa92866cc3b527b597417d70b2214c7f949ae3288d7a0d0d5", func := "perigee/perigeelaw22.LedgerAll", spec := "ledgerAll", inPlace := ["math/bits.Sub64", "math/bits.Add64"], unfollowed := true, recurses := true, apart := false, narrowed := true }
def LedgerAllUptoSaid : Prop := ledgerAllUptoRow.holds Try.pinned (OpenSpec.upto ledgerAllSpec)

/-- 'perigeelaw22.LedgerOrder', WHERE WHAT IT READS IS OF BULK AT MOST 1048576: true; the input reads as it did. -/
def ledgerOrderUptoRow : OpenClaim := { program := "ytedfbamihjnhhaa", sum := "35100a5ab60996ffa92866cc3b527b597417d70b2214c7f949ae3288d7a0d0d5", func := "perigee/perigeelaw22.LedgerOrder", spec := "ledgerOrder", inPlace := ["math/bits.Sub64", "math/bits.Add64"], unfollowed := true, recurses := true, apart := false, narrowed := true }
def LedgerOrderUptoSaid : Prop := ledgerOrderUptoRow.holds Try.pinned (OpenSpec.upto ledgerOrderSpec)

/-- 'perigeelaw23.WorldEdges', WHERE WHAT IT READS IS OF BULK AT MOST 1048576: true; the input reads as it did. -/
def worldEdgesUptoRow : OpenClaim := { program := "ytedfbamihjnhhaa", sum := "35100a5ab60996ffa92866cc3b527b597417d70b2214c7f949ae3288d7a0d0d5", func := "perigee/perigeelaw23.WorldEdges", spec := "worldEdges", inPlace := ["math/bits.Sub64", "math/bits.Add64"], unfollowed := true, recurses := true, apart := false, narrowed := true }
def WorldEdgesUptoSaid : Prop := worldEdgesUptoRow.holds Try.pinned (OpenSpec.upto worldEdgesSpec)

/-- 'perigeelaw23.WorldLists', WHERE WHAT IT READS IS OF BULK AT MOST 1048576: true; the input reads as it did. -/
def worldListsUptoRow : OpenClaim := { program := "ytedfbamihjnhhaa", sum := "35100a5ab60996ffa92866cc3b527b597417d70b2214c7f949ae3288d7a0d0d5", func := "perigee/perigeelaw23.WorldLists", spec := "worldLists", inPlace := ["math/bits.Sub64", "math/bits.Add64"], unfollowed := true, recurses := true, apart := false, narrowed := true }
def WorldListsUptoSaid : Prop := worldListsUptoRow.holds Try.pinned (OpenSpec.upto worldListsSpec)

/-- 'perigeelaw23.WorldMade', WHERE WHAT IT READS IS OF BULK AT MOST 1048576: true; the input reads as it did. -/
def worldMadeUptoRow : OpenClaim := { program := "ytedfbamihjnhhaa", sum := "35100a5ab60996ffa92866cc3b527b597417d70b2214c7f949ae3288d7a0d0d5", func := "perigee/perigeelaw23.WorldMade", spec := "worldMade", inPlace := ["math/bits.Sub64", "math/bits.Add64"], unfollowed := true, recurses := true, apart := false, narrowed := true }
def WorldMadeUptoSaid : Prop := worldMadeUptoRow.holds Try.pinned (OpenSpec.upto worldMadeSpec)

/-- 'perigeelaw23.WorldTurned', WHERE WHAT IT READS IS OF BULK AT MOST 1048576: true; the input reads as it did. -/
def worldTurnedUptoRow : OpenClaim := { program := "ytedfbamihjnhhaa", sum := "35100a5ab60996ffa92866cc3b527b597417d70b2214c7f949ae3288d7a0d0d5", func := "perigee/perigeelaw23.WorldTurned", spec := "worldTurned", inPlace := ["math/bits.Sub64", "math/bits.Add64"], unfollowed := true, recurses := true, apart := false, narrowed := true }
def WorldTurnedUptoSaid : Prop := worldTurnedUptoRow.holds Try.pinned (OpenSpec.upto worldTurnedSpec)

/-- 'perigeelaw24.CodecSizes', WHERE WHAT IT READS IS OF BULK AT MOST 1048576: true; the input reads as it did. -/
def codecSizesUptoRow : OpenClaim := { program := "ytedfbamihjnhhaa", sum := "35100a5ab60996ffa92866cc3b527b597417d70b2214c7f949ae3288d7a0d0d5", func := "perigee/perigeelaw24.CodecSizes", spec := "codecSizes", inPlace := ["math/bits.Sub64", "math/bits.Add64", "internal/abi.NoEscape"], unfollowed := true, recurses := true, apart := false, narrowed := true }
def CodecSizesUptoSaid : Prop := codecSizesUptoRow.holds Try.pinned (OpenSpec.upto codecSizesSpec)

end Rows
end Go.Proofs.Ytedfbamihjnhhaa
