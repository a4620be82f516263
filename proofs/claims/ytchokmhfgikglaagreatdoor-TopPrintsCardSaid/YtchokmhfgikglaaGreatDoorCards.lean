/-
  DERIVED. GIVEN WITH THE SEED: THE CARDS: each row of YtchokmhfgikglaaGreatDoorRows.lean that lists a variable, with what it lists TIED to the program's text (the seventh form; the later family's looks); each row that meets fmt, with fmt's text TOLD by the authors' own Lean function (tested against real Go, not proved from fmt's source: count such statements apart). THE CARD IS WHAT COUNTS. Prove the row's statement (the work); the ties are given (YtchokmhfgikglaaGreatDoorTie.lean); close each card by the builder's one call (the guide's Derived/Test/ToyasCard.lean, 'card_holds'). Laid BY PROGRAM, IN A SANDBOX (cutbox-door.mjs). By AI agents, Wed Nov 11 2026. No macro, syntax, notation, axiom, sorry.
-/
import Derived.Test.YtchokmhfgikglaaGreatDoorRows
import GoSem.ClaimSeven
namespace Go.Proofs.YtchokmhfgikglaaGreatDoor
namespace Rows

/-- THE TIED CARD OF 'verniertop.TopFold'. -/
def topFoldCard : Claim7 := { stood := { row := topFoldRow, standIns := [], harness := (true, "47edb15f2a08160994e59ca2845efee047ee56f5c70bada6ee079c979afe6c5a"), looks := true }, kinds := [], alts := [], laidByText := true, laidKinds := [.data, .data, .data, .data, .sentinel, .sentinel, .pinned], laidTests := true, laidLooks := .later }
def TopFoldCardSaid : Prop := Claim7.holds Tryz.pinned (.plain (OpenSpec.ofChange topFoldSpec)) topFoldCard

/-- THE TIED CARD OF 'verniertop.TopPrints'. -/
def topPrintsCard : Claim7 := { stood := { row := topPrintsRow, standIns := [], harness := (true, "47edb15f2a08160994e59ca2845efee047ee56f5c70bada6ee079c979afe6c5a"), looks := true }, kinds := [], alts := [], laidByText := true, laidKinds := [.data, .data, .data, .data, .sentinel, .sentinel, .pinned], laidTests := true, laidLooks := .later }
def TopPrintsCardSaid : Prop := Claim7.holds Tryz.pinned (.plain (OpenSpec.ofChange topPrintsSpec)) topPrintsCard

/-- THE SECOND FORM's CARD OF 'verniertop.TopFold'. -/
def topFoldUptoCard : Claim7 := { stood := { row := topFoldUptoRow, standIns := [], harness := (true, "47edb15f2a08160994e59ca2845efee047ee56f5c70bada6ee079c979afe6c5a"), looks := true }, kinds := [], alts := [], laidByText := true, laidKinds := [.data, .data, .data, .data, .sentinel, .sentinel, .pinned], laidTests := true, laidLooks := .later }
def TopFoldUptoCardSaid : Prop := Claim7.holds Tryz.pinned (.plain (OpenSpec.upto topFoldSpec)) topFoldUptoCard

/-- THE SECOND FORM's CARD OF 'verniertop.TopPrints'. -/
def topPrintsUptoCard : Claim7 := { stood := { row := topPrintsUptoRow, standIns := [], harness := (true, "47edb15f2a08160994e59ca2845efee047ee56f5c70bada6ee079c979afe6c5a"), looks := true }, kinds := [], alts := [], laidByText := true, laidKinds := [.data, .data, .data, .data, .sentinel, .sentinel, .pinned], laidTests := true, laidLooks := .later }
def TopPrintsUptoCardSaid : Prop := Claim7.holds Tryz.pinned (.plain (OpenSpec.upto topPrintsSpec)) topPrintsUptoCard
end Rows
end Go.Proofs.YtchokmhfgikglaaGreatDoor
