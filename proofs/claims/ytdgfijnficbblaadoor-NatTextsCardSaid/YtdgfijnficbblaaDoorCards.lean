/-
  DERIVED. GIVEN WITH THE SEED: THE CARDS: each row of YtdgfijnficbblaaDoorRows.lean that lists a variable, with what it lists TIED to the program's text (the seventh form; the later family's looks); each row that meets fmt, with fmt's text TOLD by the authors' own Lean function (tested against real Go, not proved from fmt's source: count such statements apart). THE CARD IS WHAT COUNTS. Prove the row's statement (the work); the ties are given (YtdgfijnficbblaaDoorTie.lean); close each card by the builder's one call (the guide's Derived/Test/ToyasCard.lean, 'card_holds'). Laid BY PROGRAM, IN A SANDBOX (cutbox-door.mjs). By AI agents, Wed Nov 11 2026. No macro, syntax, notation, axiom, sorry.
-/
import Derived.Test.YtdgfijnficbblaaDoorRows
import GoSem.ClaimSeven
namespace Go.Proofs.YtdgfijnficbblaaDoor
namespace Rows

/-- THE TIED CARD OF 'vernierlaw1.NatTexts'. -/
def natTextsCard : Claim7 := { stood := { row := natTextsRow, standIns := [], harness := (true, "48a24be2093d71b852a204d23a089ea441168c4f4758bddc7ab65acf6d43596f"), looks := false }, kinds := [], alts := [], laidByText := true, laidKinds := [.data, .pinned], laidTests := true, laidLooks := .later }
def NatTextsCardSaid : Prop := Claim7.holds Tryd.pinned (.plain (OpenSpec.ofChange natTextsSpec)) natTextsCard

/-- THE TIED CARD OF 'vernierlaw1.NatPrints'. -/
def natPrintsCard : Claim7 := { stood := { row := natPrintsRow, standIns := [], harness := (true, "48a24be2093d71b852a204d23a089ea441168c4f4758bddc7ab65acf6d43596f"), looks := false }, kinds := [], alts := [], laidByText := true, laidKinds := [.data, .pinned], laidTests := true, laidLooks := .later }
def NatPrintsCardSaid : Prop := Claim7.holds Tryd.pinned (.plain (OpenSpec.ofChange natPrintsSpec)) natPrintsCard

/-- THE SECOND FORM's CARD OF 'vernierlaw1.NatTexts'. -/
def natTextsUptoCard : Claim7 := { stood := { row := natTextsUptoRow, standIns := [], harness := (true, "48a24be2093d71b852a204d23a089ea441168c4f4758bddc7ab65acf6d43596f"), looks := false }, kinds := [], alts := [], laidByText := true, laidKinds := [.data, .pinned], laidTests := true, laidLooks := .later }
def NatTextsUptoCardSaid : Prop := Claim7.holds Tryd.pinned (.plain (OpenSpec.upto natTextsSpec)) natTextsUptoCard

/-- THE SECOND FORM's CARD OF 'vernierlaw1.NatPrints'. -/
def natPrintsUptoCard : Claim7 := { stood := { row := natPrintsUptoRow, standIns := [], harness := (true, "48a24be2093d71b852a204d23a089ea441168c4f4758bddc7ab65acf6d43596f"), looks := false }, kinds := [], alts := [], laidByText := true, laidKinds := [.data, .pinned], laidTests := true, laidLooks := .later }
def NatPrintsUptoCardSaid : Prop := Claim7.holds Tryd.pinned (.plain (OpenSpec.upto natPrintsSpec)) natPrintsUptoCard
end Rows
end Go.Proofs.YtdgfijnficbblaaDoor
