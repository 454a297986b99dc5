/-
  DERIVED. GIVEN WITH THE SEED: THE CARDS: each row of YtjnclkakbopnjaaGreatDoorRows.lean that lists a variable, with what it lists TIED to the program's text (the seventh form; the later family's looks); each row that meets fmt, with fmt's text TOLD by the authors' own Lean function (tested against real Go, not proved from fmt's source: count such statements apart). THE CARD IS WHAT COUNTS. Prove the row's statement (the work); the ties are given (YtjnclkakbopnjaaGreatDoorTie.lean); close each card by the builder's one call (the guide's Derived/Test/ToyasCard.lean, 'card_holds'). Laid BY PROGRAM, IN A SANDBOX (cutbox-door.mjs). By AI agents, Wed Nov 11 2026. No macro, syntax, notation, axiom, sorry.
-/
import Derived.Test.YtjnclkakbopnjaaGreatDoorRows
import GoSem.ClaimSeven
namespace Go.Proofs.YtjnclkakbopnjaaGreatDoor
namespace Rows

/-- THE TIED CARD OF 'skerrylaw04.SyntaxForms'. -/
def syntaxFormsCard : Claim7 := { stood := { row := syntaxFormsRow, standIns := [], harness := (true, "7996100b08d5ce441b7c16708236ec178352ab7312b0eb45bee4a42c6b031d96"), looks := true }, kinds := [], alts := [], laidByText := true, laidKinds := [.data, .data, .data, .sentinel, .sentinel, .listed, .data], laidTests := true, laidLooks := .later }
def SyntaxFormsCardSaid : Prop := Claim7.holds Tryz.pinned (.plain (OpenSpec.ofChange syntaxFormsSpec)) syntaxFormsCard

/-- THE TIED CARD OF 'skerrylaw04.SyntaxAlphas'. -/
def syntaxAlphasCard : Claim7 := { stood := { row := syntaxAlphasRow, standIns := [], harness := (true, "7996100b08d5ce441b7c16708236ec178352ab7312b0eb45bee4a42c6b031d96"), looks := true }, kinds := [], alts := [], laidByText := true, laidKinds := [.data, .data, .data, .sentinel, .sentinel, .listed, .data], laidTests := true, laidLooks := .later }
def SyntaxAlphasCardSaid : Prop := Claim7.holds Tryz.pinned (.plain (OpenSpec.ofChange syntaxAlphasSpec)) syntaxAlphasCard

/-- THE TIED CARD OF 'skerrylaw04.SyntaxRenames'. -/
def syntaxRenamesCard : Claim7 := { stood := { row := syntaxRenamesRow, standIns := [], harness := (true, "7996100b08d5ce441b7c16708236ec178352ab7312b0eb45bee4a42c6b031d96"), looks := true }, kinds := [], alts := [], laidByText := true, laidKinds := [.data, .data, .data, .sentinel, .sentinel, .listed, .data], laidTests := true, laidLooks := .later }
def SyntaxRenamesCardSaid : Prop := Claim7.holds Tryz.pinned (.plain (OpenSpec.ofChange syntaxRenamesSpec)) syntaxRenamesCard

/-- THE TIED CARD OF 'skerrylaw04.SyntaxChecks'. -/
def syntaxChecksCard : Claim7 := { stood := { row := syntaxChecksRow, standIns := [], harness := (true, "7996100b08d5ce441b7c16708236ec178352ab7312b0eb45bee4a42c6b031d96"), looks := true }, kinds := [], alts := [], laidByText := true, laidKinds := [.data, .data, .data, .sentinel, .sentinel, .listed, .data], laidTests := true, laidLooks := .later }
def SyntaxChecksCardSaid : Prop := Claim7.holds Tryz.pinned (.plain (OpenSpec.ofChange syntaxChecksSpec)) syntaxChecksCard

/-- THE SECOND FORM's CARD OF 'skerrylaw04.SyntaxForms'. -/
def syntaxFormsUptoCard : Claim7 := { stood := { row := syntaxFormsUptoRow, standIns := [], harness := (true, "7996100b08d5ce441b7c16708236ec178352ab7312b0eb45bee4a42c6b031d96"), looks := true }, kinds := [], alts := [], laidByText := true, laidKinds := [.data, .data, .data, .sentinel, .sentinel, .listed, .data], laidTests := true, laidLooks := .later }
def SyntaxFormsUptoCardSaid : Prop := Claim7.holds Tryz.pinned (.plain (OpenSpec.upto syntaxFormsSpec)) syntaxFormsUptoCard

/-- THE SECOND FORM's CARD OF 'skerrylaw04.SyntaxAlphas'. -/
def syntaxAlphasUptoCard : Claim7 := { stood := { row := syntaxAlphasUptoRow, standIns := [], harness := (true, "7996100b08d5ce441b7c16708236ec178352ab7312b0eb45bee4a42c6b031d96"), looks := true }, kinds := [], alts := [], laidByText := true, laidKinds := [.data, .data, .data, .sentinel, .sentinel, .listed, .data], laidTests := true, laidLooks := .later }
def SyntaxAlphasUptoCardSaid : Prop := Claim7.holds Tryz.pinned (.plain (OpenSpec.upto syntaxAlphasSpec)) syntaxAlphasUptoCard

/-- THE SECOND FORM's CARD OF 'skerrylaw04.SyntaxRenames'. -/
def syntaxRenamesUptoCard : Claim7 := { stood := { row := syntaxRenamesUptoRow, standIns := [], harness := (true, "7996100b08d5ce441b7c16708236ec178352ab7312b0eb45bee4a42c6b031d96"), looks := true }, kinds := [], alts := [], laidByText := true, laidKinds := [.data, .data, .data, .sentinel, .sentinel, .listed, .data], laidTests := true, laidLooks := .later }
def SyntaxRenamesUptoCardSaid : Prop := Claim7.holds Tryz.pinned (.plain (OpenSpec.upto syntaxRenamesSpec)) syntaxRenamesUptoCard

/-- THE SECOND FORM's CARD OF 'skerrylaw04.SyntaxChecks'. -/
def syntaxChecksUptoCard : Claim7 := { stood := { row := syntaxChecksUptoRow, standIns := [], harness := (true, "7996100b08d5ce441b7c16708236ec178352ab7312b0eb45bee4a42c6b031d96"), looks := true }, kinds := [], alts := [], laidByText := true, laidKinds := [.data, .data, .data, .sentinel, .sentinel, .listed, .data], laidTests := true, laidLooks := .later }
def SyntaxChecksUptoCardSaid : Prop := Claim7.holds Tryz.pinned (.plain (OpenSpec.upto syntaxChecksSpec)) syntaxChecksUptoCard
end Rows
end Go.Proofs.YtjnclkakbopnjaaGreatDoor
