/-
  DERIVED. GIVEN WITH THE SEED: THE CARDS: each row of YtnlolhlbpdmljaaGreatDoorRows.lean that lists a variable, with what it lists TIED to the program's text (the seventh form; the later family's looks); each row that meets fmt, with fmt's text TOLD by the authors' own Lean function (tested against real Go, not proved from fmt's source: count such statements apart). THE CARD IS WHAT COUNTS. Prove the row's statement (the work); the ties are given (YtnlolhlbpdmljaaGreatDoorTie.lean); close each card by the builder's one call (the guide's Derived/Test/ToyasCard.lean, 'card_holds'). Laid BY PROGRAM, IN A SANDBOX (cutbox-door.mjs). By AI agents, Wed Nov 11 2026. No macro, syntax, notation, axiom, sorry.
-/
import Derived.Test.YtnlolhlbpdmljaaGreatDoorRows
import GoSem.ClaimSeven
namespace Go.Proofs.YtnlolhlbpdmljaaGreatDoor
namespace Rows

/-- THE TIED CARD OF 'dynamotop.WholePages'. -/
def wholePagesCard : Claim7 := { stood := { row := wholePagesRow, standIns := [], harness := (true, "84457dc9acaaf0370d62af15a4a71ce10ff826a477358a003ffcdacfc962d78e"), looks := true }, kinds := [], alts := [], laidByText := true, laidKinds := [.handle], laidTests := true, laidLooks := .later }
def WholePagesCardSaid : Prop := Claim7.holds Tryz.pinned (.plain (OpenSpec.ofChange wholePagesSpec)) wholePagesCard

/-- THE SECOND FORM's CARD OF 'dynamotop.WholePages'. -/
def wholePagesUptoCard : Claim7 := { stood := { row := wholePagesUptoRow, standIns := [], harness := (true, "84457dc9acaaf0370d62af15a4a71ce10ff826a477358a003ffcdacfc962d78e"), looks := true }, kinds := [], alts := [], laidByText := true, laidKinds := [.handle], laidTests := true, laidLooks := .later }
def WholePagesUptoCardSaid : Prop := Claim7.holds Tryz.pinned (.plain (OpenSpec.upto wholePagesSpec)) wholePagesUptoCard
end Rows
end Go.Proofs.YtnlolhlbpdmljaaGreatDoor
