/-
  No cell of these rows narrows 'for every input' (looked for: loops, veiled, ifaces, maps, wideKeys, modest, calm, conditions, laid).
  DERIVED. THE GIVEN ROWS OF THIS SEAT. 3 by the template 'for every input the law returns true; each argument reads behind the call as it read before'; 0 by the template 'total and deterministic' (their statements: YtilkebpcjklmfaaGreatTotals.lean).
  GIVEN WITH THE SEED: the statements are not yours to turn. If you find one false, say at which input.
  Laid BY PROGRAM, IN A SANDBOX (cutbox-rows.mjs): the forced cells as the released guide's own fill.sh prints them over the translation b987e62cae561eb5… (all of the seat's roots in one cut). By AI agents, Wed Nov 11 2026. No macro, syntax, notation, axiom, sorry.
-/
import Derived.Test.YtilkebpcjklmfaaGreatChecked
import GoSem.Claim
import GoSem.ClaimJoined
import GoSem.ClaimMapViews
import Derived.JoinedTies
import Derived.KernelRfl
namespace Go.Proofs.YtilkebpcjklmfaaGreat
/- THE CELL 'sum', in the pinned program and in every row, IS THE sha256 OF THE DUMP (.gsa) THAT YtilkebpcjklmfaaGreatProg.lean LOADS. Nothing in Lean hashes anything: it is a label: what it is worth is what the hold of that sum in a sandbox is worth. -/
noncomputable def Tryz.pinned : Pinned := { name := "ytilkebpcjklmfaagreat", sum := "b987e62cae561eb55685acada01a450c032856210faa8c3a0a6e2e8fbb717a09", checked := Tryz.checked }
namespace Rows
def none {H : Type} : Left H := { results := [], args := [] }

/-- 'perigeelaw24.CodecEvents': WHATEVER THE INPUT: true; the input reads as it did. -/
def codecEventsSpec : ChangeSpec := { name := "codecEvents", fn := fun _ => fun
  | [d1, d2, d3, d4] => { results := [.lit (.bool true)], args := [d1, d2, d3, d4] }
  | _ => none }
def codecEventsRow : OpenClaim := { program := "ytilkebpcjklmfaagreat", sum := "b987e62cae561eb55685acada01a450c032856210faa8c3a0a6e2e8fbb717a09", func := "perigee/perigeelaw24.CodecEvents", spec := "codecEvents", inPlace := ["math/bits.Sub64", "math/bits.Add64", "internal/abi.NoEscape"], unfollowed := true, recurses := true, apart := false }
def CodecEventsSaid : Prop := codecEventsRow.holds Tryz.pinned (OpenSpec.ofChange codecEventsSpec)

/-- ITS FALSE NEIGHBOUR: 'it returns false'. Refute it at one input. -/
def codecEventsWrong : ChangeSpec := { name := "codecEvents", fn := fun _ => fun
  | [d1, d2, d3, d4] => { results := [.lit (.bool false)], args := [d1, d2, d3, d4] }
  | _ => none }
def CodecEventsWrongFalsely : Prop := codecEventsRow.holds Tryz.pinned (OpenSpec.ofChange codecEventsWrong)

/-- 'perigeelaw24.CodecAll': WHATEVER THE INPUT: true; the input reads as it did. -/
def codecAllSpec : ChangeSpec := { name := "codecAll", fn := fun _ => fun
  | [d1, d2] => { results := [.lit (.bool true)], args := [d1, d2] }
  | _ => none }
def codecAllRow : OpenClaim := { program := "ytilkebpcjklmfaagreat", sum := "b987e62cae561eb55685acada01a450c032856210faa8c3a0a6e2e8fbb717a09", func := "perigee/perigeelaw24.CodecAll", spec := "codecAll", inPlace := ["math/bits.Sub64", "math/bits.Add64", "internal/abi.NoEscape"], unfollowed := true, recurses := true, apart := false }
def CodecAllSaid : Prop := codecAllRow.holds Tryz.pinned (OpenSpec.ofChange codecAllSpec)

/-- ITS FALSE NEIGHBOUR: 'it returns false'. Refute it at one input. -/
def codecAllWrong : ChangeSpec := { name := "codecAll", fn := fun _ => fun
  | [d1, d2] => { results := [.lit (.bool false)], args := [d1, d2] }
  | _ => none }
def CodecAllWrongFalsely : Prop := codecAllRow.holds Tryz.pinned (OpenSpec.ofChange codecAllWrong)

/-- 'perigeelaw24.CodecBack': WHATEVER THE INPUT: true; the input reads as it did. -/
def codecBackSpec : ChangeSpec := { name := "codecBack", fn := fun _ => fun
  | [d1, d2, d3, d4, d5, d6, d7, d8] => { results := [.lit (.bool true)], args := [d1, d2, d3, d4, d5, d6, d7, d8] }
  | _ => none }
def codecBackRow : OpenClaim := { program := "ytilkebpcjklmfaagreat", sum := "b987e62cae561eb55685acada01a450c032856210faa8c3a0a6e2e8fbb717a09", func := "perigee/perigeelaw24.CodecBack", spec := "codecBack", inPlace := ["math/bits.Sub64", "math/bits.Add64", "internal/abi.NoEscape"], unfollowed := true, recurses := true, apart := false }
def CodecBackSaid : Prop := codecBackRow.holds Tryz.pinned (OpenSpec.ofChange codecBackSpec)

/-- ITS FALSE NEIGHBOUR: 'it returns false'. Refute it at one input. -/
def codecBackWrong : ChangeSpec := { name := "codecBack", fn := fun _ => fun
  | [d1, d2, d3, d4, d5, d6, d7, d8] => { results := [.lit (.bool false)], args := [d1, d2, d3, d4, d5, d6, d7, d8] }
  | _ => none }
def CodecBackWrongFalsely : Prop := codecBackRow.holds Tryz.pinned (OpenSpec.ofChange codecBackWrong)

/- THE SECOND FORM. 'bulk': how many values and letters a reading holds, each counted each time it is reached (what is shared counts as often as it is met; a slice's spare places count too). A statement '..UptoSaid' is the law's where the arguments, and the package variables that the reading takes, are together of bulk at most 1048576: NARROWER than '..Said'. Prove '..Said' where nothing that the law and all that it calls make is longer than what came in: it says more and counts as full. Else prove '..UptoSaid'. A law counts once. -/
mutual
def uptoBulk {H : Type} : DataW H → Nat
  | .lit (.string bytes) => bytes.length + 1
  | .lit _ => 1
  | .nil => 1
  | .ptr d => uptoBulk d + 1
  | .slice elems spare => uptoBulkAll elems + uptoBulkAll spare + 1
  | .agg parts => uptoBulkAll parts + 1
  | .iface _ d => uptoBulk d + 1
  | .map entries => uptoBulkEntries entries + 1
  | .held _ => 1
def uptoBulkAll {H : Type} : List (DataW H) → Nat
  | [] => 0
  | d :: r => uptoBulk d + uptoBulkAll r
def uptoBulkEntries {H : Type} : List (Lit × DataW H) → Nat
  | [] => 0
  | x :: r => uptoBulkEntry x + uptoBulkEntries r
def uptoBulkEntry {H : Type} : Lit × DataW H → Nat
  | (.string bytes, d) => bytes.length + uptoBulk d + 1
  | (_, d) => uptoBulk d + 1
 end
def uptoSmall : (H : Type) → List (DataW H) → Bool := fun _ ds => decide (uptoBulkAll ds ≤ 1048576)
def OpenSpec.upto (s : _root_.Go.ChangeSpec) : _root_.Go.OpenSpec := { _root_.Go.OpenSpec.ofChange s with cond := some uptoSmall }

/-- 'perigeelaw24.CodecEvents', WHERE WHAT IT READS IS OF BULK AT MOST 1048576: true; the input reads as it did. -/
def codecEventsUptoRow : OpenClaim := { program := "ytilkebpcjklmfaagreat", sum := "b987e62cae561eb55685acada01a450c032856210faa8c3a0a6e2e8fbb717a09", func := "perigee/perigeelaw24.CodecEvents", spec := "codecEvents", inPlace := ["math/bits.Sub64", "math/bits.Add64", "internal/abi.NoEscape"], unfollowed := true, recurses := true, apart := false, narrowed := true }
def CodecEventsUptoSaid : Prop := codecEventsUptoRow.holds Tryz.pinned (OpenSpec.upto codecEventsSpec)

/-- 'perigeelaw24.CodecAll', WHERE WHAT IT READS IS OF BULK AT MOST 1048576: true; the input reads as it did. -/
def codecAllUptoRow : OpenClaim := { program := "ytilkebpcjklmfaagreat", sum := "b987e62cae561eb55685acada01a450c032856210faa8c3a0a6e2e8fbb717a09", func := "perigee/perigeelaw24.CodecAll", spec := "codecAll", inPlace := ["math/bits.Sub64", "math/bits.Add64", "internal/abi.NoEscape"], unfollowed := true, recurses := true, apart := false, narrowed := true }
def CodecAllUptoSaid : Prop := codecAllUptoRow.holds Tryz.pinned (OpenSpec.upto codecAllSpec)

/-- 'perigeelaw24.CodecBack', WHERE WHAT IT READS IS OF BULK AT MOST 1048576: true; the input reads as it did. -/
def codecBackUptoRow : OpenClaim := { program := "ytilkebpcjklmfaagreat", sum := "b987e62cae561eb55685acada01a450c032856210faa8c3a0a6e2e8fbb717a09", func := "perigee/perigeelaw24.CodecBack", spec := "codecBack", inPlace := ["math/bits.Sub64", "math/bits.Add64", "internal/abi.NoEscape"], unfollowed := true, recurses := true, apart := false, narrowed := true }
def CodecBackUptoSaid : Prop := codecBackUptoRow.holds Tryz.pinned (OpenSpec.upto codecBackSpec)

end Rows
end Go.Proofs.YtilkebpcjklmfaaGreat
