/-
  DERIVED. GIVEN WITH THE SEED: THE CARDS: each row of YtmgfabfmnachoaaDoorRows.lean that lists a variable, with what it lists TIED to the program's text (the seventh form; the later family's looks); each row that meets fmt, with fmt's text TOLD by the authors' own Lean function (tested against real Go, not proved from fmt's source: count such statements apart). THE CARD IS WHAT COUNTS. Prove the row's statement (the work); the ties are given (YtmgfabfmnachoaaDoorTie.lean); close each card by the builder's one call (the guide's Derived/Test/ToyasCard.lean, 'card_holds'). Laid BY PROGRAM, IN A SANDBOX (cutbox-door.mjs). By AI agents, Wed Nov 11 2026. No macro, syntax, notation, axiom, sorry.
-/
import Derived.Test.YtmgfabfmnachoaaDoorRows
import GoSem.ClaimSeven
namespace Go.Proofs.YtmgfabfmnachoaaDoor
namespace Rows

/-- THE TIED CARD OF 'perigeelaw3.HexaAll'. -/
def hexaAllCard : Claim7 := { stood := { row := hexaAllRow, standIns := [], harness := (true, "a1cd5735568025760671f086be1e64f362875dcf0650b7aad07c5f5e20cd6203"), looks := false }, kinds := [], alts := [], laidByText := true, laidKinds := [.data, .pinned], laidTests := true, laidLooks := .later }
def HexaAllCardSaid : Prop := Claim7.holds Tryd.pinned (.plain (OpenSpec.ofChange hexaAllSpec)) hexaAllCard

/-- THE TIED CARD OF 'perigeelaw3.HexaBack'. -/
def hexaBackCard : Claim7 := { stood := { row := hexaBackRow, standIns := [], harness := (true, "a1cd5735568025760671f086be1e64f362875dcf0650b7aad07c5f5e20cd6203"), looks := false }, kinds := [], alts := [], laidByText := true, laidKinds := [.data, .pinned], laidTests := true, laidLooks := .later }
def HexaBackCardSaid : Prop := Claim7.holds Tryd.pinned (.plain (OpenSpec.ofChange hexaBackSpec)) hexaBackCard

/-- THE TIED CARD OF 'perigeelaw3.HexaWhole'. -/
def hexaWholeCard : Claim7 := { stood := { row := hexaWholeRow, standIns := [], harness := (true, "a1cd5735568025760671f086be1e64f362875dcf0650b7aad07c5f5e20cd6203"), looks := false }, kinds := [], alts := [], laidByText := true, laidKinds := [.data, .pinned], laidTests := true, laidLooks := .later }
def HexaWholeCardSaid : Prop := Claim7.holds Tryd.pinned (.plain (OpenSpec.ofChange hexaWholeSpec)) hexaWholeCard

/-- THE TIED CARD OF 'perigeelaw3.HexaRefuses'. -/
def hexaRefusesCard : Claim7 := { stood := { row := hexaRefusesRow, standIns := [], harness := (true, "a1cd5735568025760671f086be1e64f362875dcf0650b7aad07c5f5e20cd6203"), looks := false }, kinds := [], alts := [], laidByText := true, laidKinds := [.data, .pinned], laidTests := true, laidLooks := .later }
def HexaRefusesCardSaid : Prop := Claim7.holds Tryd.pinned (.plain (OpenSpec.ofChange hexaRefusesSpec)) hexaRefusesCard

/-- THE SECOND FORM's CARD OF 'perigeelaw3.HexaAll'. -/
def hexaAllUptoCard : Claim7 := { stood := { row := hexaAllUptoRow, standIns := [], harness := (true, "a1cd5735568025760671f086be1e64f362875dcf0650b7aad07c5f5e20cd6203"), looks := false }, kinds := [], alts := [], laidByText := true, laidKinds := [.data, .pinned], laidTests := true, laidLooks := .later }
def HexaAllUptoCardSaid : Prop := Claim7.holds Tryd.pinned (.plain (OpenSpec.upto hexaAllSpec)) hexaAllUptoCard

/-- THE SECOND FORM's CARD OF 'perigeelaw3.HexaBack'. -/
def hexaBackUptoCard : Claim7 := { stood := { row := hexaBackUptoRow, standIns := [], harness := (true, "a1cd5735568025760671f086be1e64f362875dcf0650b7aad07c5f5e20cd6203"), looks := false }, kinds := [], alts := [], laidByText := true, laidKinds := [.data, .pinned], laidTests := true, laidLooks := .later }
def HexaBackUptoCardSaid : Prop := Claim7.holds Tryd.pinned (.plain (OpenSpec.upto hexaBackSpec)) hexaBackUptoCard

/-- THE SECOND FORM's CARD OF 'perigeelaw3.HexaWhole'. -/
def hexaWholeUptoCard : Claim7 := { stood := { row := hexaWholeUptoRow, standIns := [], harness := (true, "a1cd5735568025760671f086be1e64f362875dcf0650b7aad07c5f5e20cd6203"), looks := false }, kinds := [], alts := [], laidByText := true, laidKinds := [.data, .pinned], laidTests := true, laidLooks := .later }
def HexaWholeUptoCardSaid : Prop := Claim7.holds Tryd.pinned (.plain (OpenSpec.upto hexaWholeSpec)) hexaWholeUptoCard

/-- THE SECOND FORM's CARD OF 'perigeelaw3.HexaRefuses'. -/
def hexaRefusesUptoCard : Claim7 := { stood := { row := hexaRefusesUptoRow, standIns := [], harness := (true, "a1cd5735568025760671f086be1e64f362875dcf0650b7aad07c5f5e20cd6203"), looks := false }, kinds := [], alts := [], laidByText := true, laidKinds := [.data, .pinned], laidTests := true, laidLooks := .later }
def HexaRefusesUptoCardSaid : Prop := Claim7.holds Tryd.pinned (.plain (OpenSpec.upto hexaRefusesSpec)) hexaRefusesUptoCard
end Rows
end Go.Proofs.YtmgfabfmnachoaaDoor
