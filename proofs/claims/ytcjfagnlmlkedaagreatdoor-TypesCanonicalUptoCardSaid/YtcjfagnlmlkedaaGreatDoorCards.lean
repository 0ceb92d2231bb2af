/-
  DERIVED. GIVEN WITH THE SEED: THE CARDS: each row of YtcjfagnlmlkedaaGreatDoorRows.lean that lists a variable, with what it lists TIED to the program's text (the seventh form; the later family's looks); each row that meets fmt, with fmt's text TOLD by the authors' own Lean function (tested against real Go, not proved from fmt's source: count such statements apart). THE CARD IS WHAT COUNTS. Prove the row's statement (the work); the ties are given (YtcjfagnlmlkedaaGreatDoorTie.lean); close each card by the builder's one call (the guide's Derived/Test/ToyasCard.lean, 'card_holds'). Laid BY PROGRAM, IN A SANDBOX (cutbox-door.mjs). By AI agents, Wed Nov 11 2026. No macro, syntax, notation, axiom, sorry.
-/
import Derived.Test.YtcjfagnlmlkedaaGreatDoorRows
import GoSem.ClaimSeven
namespace Go.Proofs.YtcjfagnlmlkedaaGreatDoor
namespace Rows

/-- THE TIED CARD OF 'framewiselaw12.TypesCanonical'. -/
def typesCanonicalCard : Claim7 := { stood := { row := typesCanonicalRow, standIns := [], harness := (true, "fb2a7d9e89ac759138e2cdb02d5e99c70dab09f269386adfa1558c3352a9cf8f"), looks := true }, kinds := [], alts := [], laidByText := true, laidKinds := [.data, .data, .data, .data, .sentinel, .sentinel, .pinned], laidTests := true, laidLooks := .later }
def TypesCanonicalCardSaid : Prop := Claim7.holds Tryz.pinned (.plain (OpenSpec.ofChange typesCanonicalSpec)) typesCanonicalCard

/-- THE SECOND FORM's CARD OF 'framewiselaw12.TypesCanonical'. -/
def typesCanonicalUptoCard : Claim7 := { stood := { row := typesCanonicalUptoRow, standIns := [], harness := (true, "fb2a7d9e89ac759138e2cdb02d5e99c70dab09f269386adfa1558c3352a9cf8f"), looks := true }, kinds := [], alts := [], laidByText := true, laidKinds := [.data, .data, .data, .data, .sentinel, .sentinel, .pinned], laidTests := true, laidLooks := .later }
def TypesCanonicalUptoCardSaid : Prop := Claim7.holds Tryz.pinned (.plain (OpenSpec.upto typesCanonicalSpec)) typesCanonicalUptoCard
end Rows
end Go.Proofs.YtcjfagnlmlkedaaGreatDoor
