/-
  DERIVED. GIVEN WITH THE SEED: THE CARDS: each row of YtobmjcbjailclaaGreatDoorRows.lean that lists a variable, with what it lists TIED to the program's text (the seventh form; the later family's looks); each row that meets fmt, with fmt's text TOLD by the authors' own Lean function (tested against real Go, not proved from fmt's source: count such statements apart). THE CARD IS WHAT COUNTS. Prove the row's statement (the work); the ties are given (YtobmjcbjailclaaGreatDoorTie.lean); close each card by the builder's one call (the guide's Derived/Test/ToyasCard.lean, 'card_holds'). Laid BY PROGRAM, IN A SANDBOX (cutbox-door.mjs). By AI agents, Wed Nov 11 2026. No macro, syntax, notation, axiom, sorry.
-/
import Derived.Test.YtobmjcbjailclaaGreatDoorRows
import GoSem.ClaimSeven
namespace Go.Proofs.YtobmjcbjailclaaGreatDoor
namespace Rows

/-- THE TIED CARD OF 'vernierlaw3.DecLong'. -/
def decLongCard : Claim7 := { stood := { row := decLongRow, standIns := [], harness := (true, "300e26374b028a7070793f7e3b82cdf6d45c833f032252f513618a82750db562"), looks := false }, kinds := [], alts := [], laidByText := true, laidKinds := [.data, .pinned], laidTests := true, laidLooks := .later }
def DecLongCardSaid : Prop := Claim7.holds Tryz.pinned (.plain (OpenSpec.ofChange decLongSpec)) decLongCard

/-- THE TIED CARD OF 'vernierlaw20.ShowTells'. -/
def showTellsCard : Claim7 := { stood := { row := showTellsRow, standIns := [], harness := (true, "300e26374b028a7070793f7e3b82cdf6d45c833f032252f513618a82750db562"), looks := false }, kinds := [], alts := [], laidByText := true, laidKinds := [.data, .pinned], laidTests := true, laidLooks := .later }
def ShowTellsCardSaid : Prop := Claim7.holds Tryz.pinned (.plain (OpenSpec.ofChange showTellsSpec)) showTellsCard

/-- THE TIED CARD OF 'vernierlaw20.ShowNear'. -/
def showNearCard : Claim7 := { stood := { row := showNearRow, standIns := [], harness := (true, "300e26374b028a7070793f7e3b82cdf6d45c833f032252f513618a82750db562"), looks := false }, kinds := [], alts := [], laidByText := true, laidKinds := [.data, .pinned], laidTests := true, laidLooks := .later }
def ShowNearCardSaid : Prop := Claim7.holds Tryz.pinned (.plain (OpenSpec.ofChange showNearSpec)) showNearCard

/-- THE SECOND FORM's CARD OF 'vernierlaw3.DecLong'. -/
def decLongUptoCard : Claim7 := { stood := { row := decLongUptoRow, standIns := [], harness := (true, "300e26374b028a7070793f7e3b82cdf6d45c833f032252f513618a82750db562"), looks := false }, kinds := [], alts := [], laidByText := true, laidKinds := [.data, .pinned], laidTests := true, laidLooks := .later }
def DecLongUptoCardSaid : Prop := Claim7.holds Tryz.pinned (.plain (OpenSpec.upto decLongSpec)) decLongUptoCard

/-- THE SECOND FORM's CARD OF 'vernierlaw20.ShowTells'. -/
def showTellsUptoCard : Claim7 := { stood := { row := showTellsUptoRow, standIns := [], harness := (true, "300e26374b028a7070793f7e3b82cdf6d45c833f032252f513618a82750db562"), looks := false }, kinds := [], alts := [], laidByText := true, laidKinds := [.data, .pinned], laidTests := true, laidLooks := .later }
def ShowTellsUptoCardSaid : Prop := Claim7.holds Tryz.pinned (.plain (OpenSpec.upto showTellsSpec)) showTellsUptoCard

/-- THE SECOND FORM's CARD OF 'vernierlaw20.ShowNear'. -/
def showNearUptoCard : Claim7 := { stood := { row := showNearUptoRow, standIns := [], harness := (true, "300e26374b028a7070793f7e3b82cdf6d45c833f032252f513618a82750db562"), looks := false }, kinds := [], alts := [], laidByText := true, laidKinds := [.data, .pinned], laidTests := true, laidLooks := .later }
def ShowNearUptoCardSaid : Prop := Claim7.holds Tryz.pinned (.plain (OpenSpec.upto showNearSpec)) showNearUptoCard
end Rows
end Go.Proofs.YtobmjcbjailclaaGreatDoor
