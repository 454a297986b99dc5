/-
  DERIVED. GIVEN WITH THE SEED: THE CARDS: each row of YtjnimfnelacceaaGreatDoorRows.lean that lists a variable, with what it lists TIED to the program's text (the seventh form; the later family's looks); each row that meets fmt, with fmt's text TOLD by the authors' own Lean function (tested against real Go, not proved from fmt's source: count such statements apart). THE CARD IS WHAT COUNTS. Prove the row's statement (the work); the ties are given (YtjnimfnelacceaaGreatDoorTie.lean); close each card by the builder's one call (the guide's Derived/Test/ToyasCard.lean, 'card_holds'). Laid BY PROGRAM, IN A SANDBOX (cutbox-door.mjs). By AI agents, Wed Nov 11 2026. No macro, syntax, notation, axiom, sorry.
-/
import Derived.Test.YtjnimfnelacceaaGreatDoorRows
import GoSem.ClaimSeven
namespace Go.Proofs.YtjnimfnelacceaaGreatDoor
namespace Rows

/-- THE TIED CARD OF 'skerrylaw04.SyntaxAccesses'. -/
def syntaxAccessesCard : Claim7 := { stood := { row := syntaxAccessesRow, standIns := [], harness := (true, "f467e2478feb4467dea9ac116914df3bbad64d4a4932f53511e92d258dff18b5"), looks := true }, kinds := [], alts := [], laidByText := true, laidKinds := [.data, .data, .data, .sentinel, .sentinel, .listed, .data], laidTests := true, laidLooks := .later }
def SyntaxAccessesCardSaid : Prop := Claim7.holds Tryz.pinned (.plain (OpenSpec.ofChange syntaxAccessesSpec)) syntaxAccessesCard

/-- THE SECOND FORM's CARD OF 'skerrylaw04.SyntaxAccesses'. -/
def syntaxAccessesUptoCard : Claim7 := { stood := { row := syntaxAccessesUptoRow, standIns := [], harness := (true, "f467e2478feb4467dea9ac116914df3bbad64d4a4932f53511e92d258dff18b5"), looks := true }, kinds := [], alts := [], laidByText := true, laidKinds := [.data, .data, .data, .sentinel, .sentinel, .listed, .data], laidTests := true, laidLooks := .later }
def SyntaxAccessesUptoCardSaid : Prop := Claim7.holds Tryz.pinned (.plain (OpenSpec.upto syntaxAccessesSpec)) syntaxAccessesUptoCard
end Rows
end Go.Proofs.YtjnimfnelacceaaGreatDoor
