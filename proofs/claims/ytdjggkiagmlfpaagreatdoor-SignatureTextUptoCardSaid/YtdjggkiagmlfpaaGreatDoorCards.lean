/-
  DERIVED. GIVEN WITH THE SEED: THE CARDS: each row of YtdjggkiagmlfpaaGreatDoorRows.lean that lists a variable, with what it lists TIED to the program's text (the seventh form; the later family's looks); each row that meets fmt, with fmt's text TOLD by the authors' own Lean function (tested against real Go, not proved from fmt's source: count such statements apart). THE CARD IS WHAT COUNTS. Prove the row's statement (the work); the ties are given (YtdjggkiagmlfpaaGreatDoorTie.lean); close each card by the builder's one call (the guide's Derived/Test/ToyasCard.lean, 'card_holds'). Laid BY PROGRAM, IN A SANDBOX (cutbox-door.mjs). By AI agents, Wed Nov 11 2026. No macro, syntax, notation, axiom, sorry.
-/
import Derived.Test.YtdjggkiagmlfpaaGreatDoorRows
import GoSem.ClaimSeven
namespace Go.Proofs.YtdjggkiagmlfpaaGreatDoor
namespace Rows

/-- THE TIED CARD OF 'framewiselaw57.SignatureText'. -/
def signatureTextCard : Claim7 := { stood := { row := signatureTextRow, standIns := [], harness := (true, "46bd6a74cec6fb49723726ba05742ffe62448b8dcd01e9b74354c9d9654cb81c"), looks := true }, kinds := [], alts := [], laidByText := true, laidKinds := [.data, .data, .data, .data, .sentinel, .sentinel, .pinned], laidTests := true, laidLooks := .later }
def SignatureTextCardSaid : Prop := Claim7.holds Tryz.pinned (.plain (OpenSpec.ofChange signatureTextSpec)) signatureTextCard

/-- THE SECOND FORM's CARD OF 'framewiselaw57.SignatureText'. -/
def signatureTextUptoCard : Claim7 := { stood := { row := signatureTextUptoRow, standIns := [], harness := (true, "46bd6a74cec6fb49723726ba05742ffe62448b8dcd01e9b74354c9d9654cb81c"), looks := true }, kinds := [], alts := [], laidByText := true, laidKinds := [.data, .data, .data, .data, .sentinel, .sentinel, .pinned], laidTests := true, laidLooks := .later }
def SignatureTextUptoCardSaid : Prop := Claim7.holds Tryz.pinned (.plain (OpenSpec.upto signatureTextSpec)) signatureTextUptoCard
end Rows
end Go.Proofs.YtdjggkiagmlfpaaGreatDoor
