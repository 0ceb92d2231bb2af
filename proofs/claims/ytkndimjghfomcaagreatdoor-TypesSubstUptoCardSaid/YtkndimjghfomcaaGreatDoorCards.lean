/-
  DERIVED. GIVEN WITH THE SEED: THE CARDS: each row of YtkndimjghfomcaaGreatDoorRows.lean that lists a variable, with what it lists TIED to the program's text (the seventh form; the later family's looks); each row that meets fmt, with fmt's text TOLD by the authors' own Lean function (tested against real Go, not proved from fmt's source: count such statements apart). THE CARD IS WHAT COUNTS. Prove the row's statement (the work); the ties are given (YtkndimjghfomcaaGreatDoorTie.lean); close each card by the builder's one call (the guide's Derived/Test/ToyasCard.lean, 'card_holds'). Laid BY PROGRAM, IN A SANDBOX (cutbox-door.mjs). By AI agents, Wed Nov 11 2026. No macro, syntax, notation, axiom, sorry.
-/
import Derived.Test.YtkndimjghfomcaaGreatDoorRows
import GoSem.ClaimSeven
namespace Go.Proofs.YtkndimjghfomcaaGreatDoor
namespace Rows

/-- THE TIED CARD OF 'framewiselaw12.TypesSubst'. -/
def typesSubstCard : Claim7 := { stood := { row := typesSubstRow, standIns := [], harness := (true, "85f149b90411750ca5c80cea1af1212da65704cf1e19a438de02ca28266113fd"), looks := true }, kinds := [], alts := [], laidByText := true, laidKinds := [.data, .data, .data, .data, .sentinel, .sentinel, .pinned], laidTests := true, laidLooks := .later }
def TypesSubstCardSaid : Prop := Claim7.holds Tryz.pinned (.plain (OpenSpec.ofChange typesSubstSpec)) typesSubstCard

/-- THE TIED CARD OF 'framewiselaw12.TypesScheme'. -/
def typesSchemeCard : Claim7 := { stood := { row := typesSchemeRow, standIns := [], harness := (true, "85f149b90411750ca5c80cea1af1212da65704cf1e19a438de02ca28266113fd"), looks := true }, kinds := [], alts := [], laidByText := true, laidKinds := [.data, .data, .data, .data, .sentinel, .sentinel, .pinned], laidTests := true, laidLooks := .later }
def TypesSchemeCardSaid : Prop := Claim7.holds Tryz.pinned (.plain (OpenSpec.ofChange typesSchemeSpec)) typesSchemeCard

/-- THE TIED CARD OF 'framewiselaw12.TypesForms'. -/
def typesFormsCard : Claim7 := { stood := { row := typesFormsRow, standIns := [], harness := (true, "85f149b90411750ca5c80cea1af1212da65704cf1e19a438de02ca28266113fd"), looks := true }, kinds := [], alts := [], laidByText := true, laidKinds := [.data, .data, .data, .data, .sentinel, .sentinel, .pinned], laidTests := true, laidLooks := .later }
def TypesFormsCardSaid : Prop := Claim7.holds Tryz.pinned (.plain (OpenSpec.ofChange typesFormsSpec)) typesFormsCard

/-- THE TIED CARD OF 'framewiselaw12.TypesText'. -/
def typesTextCard : Claim7 := { stood := { row := typesTextRow, standIns := [], harness := (true, "85f149b90411750ca5c80cea1af1212da65704cf1e19a438de02ca28266113fd"), looks := true }, kinds := [], alts := [], laidByText := true, laidKinds := [.data, .data, .data, .data, .sentinel, .sentinel, .pinned], laidTests := true, laidLooks := .later }
def TypesTextCardSaid : Prop := Claim7.holds Tryz.pinned (.plain (OpenSpec.ofChange typesTextSpec)) typesTextCard

/-- THE SECOND FORM's CARD OF 'framewiselaw12.TypesSubst'. -/
def typesSubstUptoCard : Claim7 := { stood := { row := typesSubstUptoRow, standIns := [], harness := (true, "85f149b90411750ca5c80cea1af1212da65704cf1e19a438de02ca28266113fd"), looks := true }, kinds := [], alts := [], laidByText := true, laidKinds := [.data, .data, .data, .data, .sentinel, .sentinel, .pinned], laidTests := true, laidLooks := .later }
def TypesSubstUptoCardSaid : Prop := Claim7.holds Tryz.pinned (.plain (OpenSpec.upto typesSubstSpec)) typesSubstUptoCard

/-- THE SECOND FORM's CARD OF 'framewiselaw12.TypesScheme'. -/
def typesSchemeUptoCard : Claim7 := { stood := { row := typesSchemeUptoRow, standIns := [], harness := (true, "85f149b90411750ca5c80cea1af1212da65704cf1e19a438de02ca28266113fd"), looks := true }, kinds := [], alts := [], laidByText := true, laidKinds := [.data, .data, .data, .data, .sentinel, .sentinel, .pinned], laidTests := true, laidLooks := .later }
def TypesSchemeUptoCardSaid : Prop := Claim7.holds Tryz.pinned (.plain (OpenSpec.upto typesSchemeSpec)) typesSchemeUptoCard

/-- THE SECOND FORM's CARD OF 'framewiselaw12.TypesForms'. -/
def typesFormsUptoCard : Claim7 := { stood := { row := typesFormsUptoRow, standIns := [], harness := (true, "85f149b90411750ca5c80cea1af1212da65704cf1e19a438de02ca28266113fd"), looks := true }, kinds := [], alts := [], laidByText := true, laidKinds := [.data, .data, .data, .data, .sentinel, .sentinel, .pinned], laidTests := true, laidLooks := .later }
def TypesFormsUptoCardSaid : Prop := Claim7.holds Tryz.pinned (.plain (OpenSpec.upto typesFormsSpec)) typesFormsUptoCard

/-- THE SECOND FORM's CARD OF 'framewiselaw12.TypesText'. -/
def typesTextUptoCard : Claim7 := { stood := { row := typesTextUptoRow, standIns := [], harness := (true, "85f149b90411750ca5c80cea1af1212da65704cf1e19a438de02ca28266113fd"), looks := true }, kinds := [], alts := [], laidByText := true, laidKinds := [.data, .data, .data, .data, .sentinel, .sentinel, .pinned], laidTests := true, laidLooks := .later }
def TypesTextUptoCardSaid : Prop := Claim7.holds Tryz.pinned (.plain (OpenSpec.upto typesTextSpec)) typesTextUptoCard
end Rows
end Go.Proofs.YtkndimjghfomcaaGreatDoor
