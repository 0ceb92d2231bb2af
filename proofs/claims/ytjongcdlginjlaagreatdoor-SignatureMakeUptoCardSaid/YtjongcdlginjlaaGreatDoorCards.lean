/-
  DERIVED. GIVEN WITH THE SEED: THE CARDS: each row of YtjongcdlginjlaaGreatDoorRows.lean that lists a variable, with what it lists TIED to the program's text (the seventh form; the later family's looks); each row that meets fmt, with fmt's text TOLD by the authors' own Lean function (tested against real Go, not proved from fmt's source: count such statements apart). THE CARD IS WHAT COUNTS. Prove the row's statement (the work); the ties are given (YtjongcdlginjlaaGreatDoorTie.lean); close each card by the builder's one call (the guide's Derived/Test/ToyasCard.lean, 'card_holds'). Laid BY PROGRAM, IN A SANDBOX (cutbox-door.mjs). By AI agents, Wed Nov 11 2026. No macro, syntax, notation, axiom, sorry.
-/
import Derived.Test.YtjongcdlginjlaaGreatDoorRows
import GoSem.ClaimSeven
namespace Go.Proofs.YtjongcdlginjlaaGreatDoor
namespace Rows

/-- THE TIED CARD OF 'framewiselaw57.SignatureOrder'. -/
def signatureOrderCard : Claim7 := { stood := { row := signatureOrderRow, standIns := [], harness := (true, "e17a6c669b4cbbd67a9a101967d4210fb2fb573e4bf89d379658379a33f46243"), looks := true }, kinds := [], alts := [], laidByText := true, laidKinds := [.data, .data, .data, .data, .sentinel, .sentinel, .pinned], laidTests := true, laidLooks := .later }
def SignatureOrderCardSaid : Prop := Claim7.holds Tryz.pinned (.plain (OpenSpec.ofChange signatureOrderSpec)) signatureOrderCard

/-- THE TIED CARD OF 'framewiselaw57.SignatureMake'. -/
def signatureMakeCard : Claim7 := { stood := { row := signatureMakeRow, standIns := [], harness := (true, "e17a6c669b4cbbd67a9a101967d4210fb2fb573e4bf89d379658379a33f46243"), looks := true }, kinds := [], alts := [], laidByText := true, laidKinds := [.data, .data, .data, .data, .sentinel, .sentinel, .pinned], laidTests := true, laidLooks := .later }
def SignatureMakeCardSaid : Prop := Claim7.holds Tryz.pinned (.plain (OpenSpec.ofChange signatureMakeSpec)) signatureMakeCard

/-- THE SECOND FORM's CARD OF 'framewiselaw57.SignatureOrder'. -/
def signatureOrderUptoCard : Claim7 := { stood := { row := signatureOrderUptoRow, standIns := [], harness := (true, "e17a6c669b4cbbd67a9a101967d4210fb2fb573e4bf89d379658379a33f46243"), looks := true }, kinds := [], alts := [], laidByText := true, laidKinds := [.data, .data, .data, .data, .sentinel, .sentinel, .pinned], laidTests := true, laidLooks := .later }
def SignatureOrderUptoCardSaid : Prop := Claim7.holds Tryz.pinned (.plain (OpenSpec.upto signatureOrderSpec)) signatureOrderUptoCard

/-- THE SECOND FORM's CARD OF 'framewiselaw57.SignatureMake'. -/
def signatureMakeUptoCard : Claim7 := { stood := { row := signatureMakeUptoRow, standIns := [], harness := (true, "e17a6c669b4cbbd67a9a101967d4210fb2fb573e4bf89d379658379a33f46243"), looks := true }, kinds := [], alts := [], laidByText := true, laidKinds := [.data, .data, .data, .data, .sentinel, .sentinel, .pinned], laidTests := true, laidLooks := .later }
def SignatureMakeUptoCardSaid : Prop := Claim7.holds Tryz.pinned (.plain (OpenSpec.upto signatureMakeSpec)) signatureMakeUptoCard
end Rows
end Go.Proofs.YtjongcdlginjlaaGreatDoor
