/-
  No cell of these rows narrows 'for every input' (looked for: loops, veiled, ifaces, maps, wideKeys, modest, calm, conditions, laid).
  DERIVED. THE GIVEN ROWS OF THIS SEAT. 7 by the template 'for every input the law returns true; each argument reads behind the call as it read before'; 0 by the template 'total and deterministic' (their statements: YtdjolpclkbfeoaaTotals.lean).
  GIVEN WITH THE SEED: the statements are not yours to turn. If you find one false, say at which input.
  Laid BY PROGRAM, IN A SANDBOX (cutbox-rows.mjs): the forced cells as the released guide's own fill.sh prints them over the translation 1dfae0fc484d7d89… (all of the seat's roots in one cut). By AI agents, Wed Nov 11 2026. No macro, syntax, notation, axiom, sorry.
-/
import Derived.Test.YtdjolpclkbfeoaaChecked
import GoSem.Claim
import GoSem.ClaimJoined
import GoSem.ClaimMapViews
import Derived.JoinedTies
import Derived.KernelRfl
namespace Go.Proofs.Ytdjolpclkbfeoaa
/- THE CELL 'sum', in the pinned program and in every row, IS THE sha256 OF THE DUMP (.gsa) THAT YtdjolpclkbfeoaaProg.lean LOADS. Nothing in Lean hashes anything: it is a label: what it is worth is what the hold of that sum in a sandbox is worth. -/
noncomputable def Try.pinned : Pinned := { name := "ytdjolpclkbfeoaa", sum := "1dfae0fc484d7d89f25e6a15cd945b12f0365ba363b339177c79a22662525e30", checked := Try.checked }
namespace Rows
def none {H : Type} : Left H := { results := [], args := [] }

/-- 'framewiselaw02.DigestTexts': WHATEVER THE INPUT: true; the input reads as it did. -/
def digestTextsSpec : ChangeSpec := { name := "digestTexts", fn := fun _ => fun
  | [d1, d2] => { results := [.lit (.bool true)], args := [d1, d2] }
  | _ => none }
def digestTextsRow : OpenClaim := { program := "ytdjolpclkbfeoaa", sum := "1dfae0fc484d7d89f25e6a15cd945b12f0365ba363b339177c79a22662525e30", func := "framewise/framewiselaw02.DigestTexts", spec := "digestTexts", unfollowed := true, recurses := true, apart := false }
def DigestTextsSaid : Prop := digestTextsRow.holds Try.pinned (OpenSpec.ofChange digestTextsSpec)

/-- ITS FALSE NEIGHBOUR: 'it returns false'. Refute it at one input. -/
def digestTextsWrong : ChangeSpec := { name := "digestTexts", fn := fun _ => fun
  | [d1, d2] => { results := [.lit (.bool false)], args := [d1, d2] }
  | _ => none }
def DigestTextsWrongFalsely : Prop := digestTextsRow.holds Try.pinned (OpenSpec.ofChange digestTextsWrong)

/-- 'framewiselaw02.DigestChanges': WHATEVER THE INPUT: true; the input reads as it did. -/
def digestChangesSpec : ChangeSpec := { name := "digestChanges", fn := fun _ => fun
  | [d1, d2, d3] => { results := [.lit (.bool true)], args := [d1, d2, d3] }
  | _ => none }
def digestChangesRow : OpenClaim := { program := "ytdjolpclkbfeoaa", sum := "1dfae0fc484d7d89f25e6a15cd945b12f0365ba363b339177c79a22662525e30", func := "framewise/framewiselaw02.DigestChanges", spec := "digestChanges", unfollowed := true, recurses := true, apart := false }
def DigestChangesSaid : Prop := digestChangesRow.holds Try.pinned (OpenSpec.ofChange digestChangesSpec)

/-- ITS FALSE NEIGHBOUR: 'it returns false'. Refute it at one input. -/
def digestChangesWrong : ChangeSpec := { name := "digestChanges", fn := fun _ => fun
  | [d1, d2, d3] => { results := [.lit (.bool false)], args := [d1, d2, d3] }
  | _ => none }
def DigestChangesWrongFalsely : Prop := digestChangesRow.holds Try.pinned (OpenSpec.ofChange digestChangesWrong)

/-- 'framewiselaw02.DigestNumbers': WHATEVER THE INPUT: true; the input reads as it did. -/
def digestNumbersSpec : ChangeSpec := { name := "digestNumbers", fn := fun _ => fun
  | [d1, d2, d3] => { results := [.lit (.bool true)], args := [d1, d2, d3] }
  | _ => none }
def digestNumbersRow : OpenClaim := { program := "ytdjolpclkbfeoaa", sum := "1dfae0fc484d7d89f25e6a15cd945b12f0365ba363b339177c79a22662525e30", func := "framewise/framewiselaw02.DigestNumbers", spec := "digestNumbers", unfollowed := true, recurses := true, apart := false }
def DigestNumbersSaid : Prop := digestNumbersRow.holds Try.pinned (OpenSpec.ofChange digestNumbersSpec)

/-- ITS FALSE NEIGHBOUR: 'it returns false'. Refute it at one input. -/
def digestNumbersWrong : ChangeSpec := { name := "digestNumbers", fn := fun _ => fun
  | [d1, d2, d3] => { results := [.lit (.bool false)], args := [d1, d2, d3] }
  | _ => none }
def DigestNumbersWrongFalsely : Prop := digestNumbersRow.holds Try.pinned (OpenSpec.ofChange digestNumbersWrong)

/-- 'framewiselaw02.DigestPowers': WHATEVER THE INPUT: true; the input reads as it did. -/
def digestPowersSpec : ChangeSpec := { name := "digestPowers", fn := fun _ => fun
  | [d1, d2] => { results := [.lit (.bool true)], args := [d1, d2] }
  | _ => none }
def digestPowersRow : OpenClaim := { program := "ytdjolpclkbfeoaa", sum := "1dfae0fc484d7d89f25e6a15cd945b12f0365ba363b339177c79a22662525e30", func := "framewise/framewiselaw02.DigestPowers", spec := "digestPowers", unfollowed := true, recurses := true, apart := false }
def DigestPowersSaid : Prop := digestPowersRow.holds Try.pinned (OpenSpec.ofChange digestPowersSpec)

/-- ITS FALSE NEIGHBOUR: 'it returns false'. Refute it at one input. -/
def digestPowersWrong : ChangeSpec := { name := "digestPowers", fn := fun _ => fun
  | [d1, d2] => { results := [.lit (.bool false)], args := [d1, d2] }
  | _ => none }
def DigestPowersWrongFalsely : Prop := digestPowersRow.holds Try.pinned (OpenSpec.ofChange digestPowersWrong)

/-- 'framewiselaw02.DigestSeals': WHATEVER THE INPUT: true; the input reads as it did. -/
def digestSealsSpec : ChangeSpec := { name := "digestSeals", fn := fun _ => fun
  | [d1, d2, d3] => { results := [.lit (.bool true)], args := [d1, d2, d3] }
  | _ => none }
def digestSealsRow : OpenClaim := { program := "ytdjolpclkbfeoaa", sum := "1dfae0fc484d7d89f25e6a15cd945b12f0365ba363b339177c79a22662525e30", func := "framewise/framewiselaw02.DigestSeals", spec := "digestSeals", unfollowed := true, recurses := true, apart := false }
def DigestSealsSaid : Prop := digestSealsRow.holds Try.pinned (OpenSpec.ofChange digestSealsSpec)

/-- ITS FALSE NEIGHBOUR: 'it returns false'. Refute it at one input. -/
def digestSealsWrong : ChangeSpec := { name := "digestSeals", fn := fun _ => fun
  | [d1, d2, d3] => { results := [.lit (.bool false)], args := [d1, d2, d3] }
  | _ => none }
def DigestSealsWrongFalsely : Prop := digestSealsRow.holds Try.pinned (OpenSpec.ofChange digestSealsWrong)

/-- 'framewiselaw02.DigestParts': WHATEVER THE INPUT: true; the input reads as it did. -/
def digestPartsSpec : ChangeSpec := { name := "digestParts", fn := fun _ => fun
  | [d1, d2, d3] => { results := [.lit (.bool true)], args := [d1, d2, d3] }
  | _ => none }
def digestPartsRow : OpenClaim := { program := "ytdjolpclkbfeoaa", sum := "1dfae0fc484d7d89f25e6a15cd945b12f0365ba363b339177c79a22662525e30", func := "framewise/framewiselaw02.DigestParts", spec := "digestParts", unfollowed := true, recurses := true, apart := false }
def DigestPartsSaid : Prop := digestPartsRow.holds Try.pinned (OpenSpec.ofChange digestPartsSpec)

/-- ITS FALSE NEIGHBOUR: 'it returns false'. Refute it at one input. -/
def digestPartsWrong : ChangeSpec := { name := "digestParts", fn := fun _ => fun
  | [d1, d2, d3] => { results := [.lit (.bool false)], args := [d1, d2, d3] }
  | _ => none }
def DigestPartsWrongFalsely : Prop := digestPartsRow.holds Try.pinned (OpenSpec.ofChange digestPartsWrong)

/-- 'framewiselaw02.DigestOf': WHATEVER THE INPUT: true; the input reads as it did. -/
def digestOfSpec : ChangeSpec := { name := "digestOf", fn := fun _ => fun
  | [d1, d2] => { results := [.lit (.bool true)], args := [d1, d2] }
  | _ => none }
def digestOfRow : OpenClaim := { program := "ytdjolpclkbfeoaa", sum := "1dfae0fc484d7d89f25e6a15cd945b12f0365ba363b339177c79a22662525e30", func := "framewise/framewiselaw02.DigestOf", spec := "digestOf", unfollowed := true, recurses := true, apart := false }
def DigestOfSaid : Prop := digestOfRow.holds Try.pinned (OpenSpec.ofChange digestOfSpec)

/-- ITS FALSE NEIGHBOUR: 'it returns false'. Refute it at one input. -/
def digestOfWrong : ChangeSpec := { name := "digestOf", fn := fun _ => fun
  | [d1, d2] => { results := [.lit (.bool false)], args := [d1, d2] }
  | _ => none }
def DigestOfWrongFalsely : Prop := digestOfRow.holds Try.pinned (OpenSpec.ofChange digestOfWrong)

/- THE SECOND FORM. 'bulk': how many values and letters a reading holds, each counted each time it is reached (what is shared counts as often as it is met; a slice's spare places count too). A statement '..UptoSaid' is the law's where the arguments, and the package variables that the reading takes, are together of bulk at most 1048576: NARROWER than '..Said'. Prove '..Said' where nothing that the law and all that it calls make is longer than what came in: it says more and counts as full. Else prove '..UptoSaid'. A law counts once. -/
mutual
def uptoBulk {H : Type} : DataW H → Nat
  | .lit (.string bytes) => bytes.length + 1
  | .lit _ => 1
  | .nil => 1
  | .ptr d => uptoBulk d + 1
  | .slice elems spare => uptoBulkAll elems + uptoBulkAll spare + 1
  | .agg parts => uptoBulkAll parts + 1
  | .iface _ d => uptoBulk d + 1
  | .map entries => uptoBulkEntries entries + 1
  | .held _ => 1
def uptoBulkAll {H : Type} : List (DataW H) → Nat
  | [] => 0
  | d :: r => uptoBulk d + uptoBulkAll r
def uptoBulkEntries {H : Type} : List (Lit × DataW H) → Nat
  | [] => 0
  | x :: r => uptoBulkEntry x + uptoBulkEntries r
def uptoBulkEntry {H : Type} : Lit × DataW H → Nat
  | (.string bytes, d) => bytes.length + uptoBulk d + 1
  | (_, d) => uptoBulk d + 1
 end
def uptoSmall : (H : Type) → List (DataW H) → Bool := fun _ ds => decide (uptoBulkAll ds ≤ 1048576)
def OpenSpec.upto (s : _root_.Go.ChangeSpec) : _root_.Go.OpenSpec := { _root_.Go.OpenSpec.ofChange s with cond := some uptoSmall }

/-- 'framewiselaw02.DigestTexts', WHERE WHAT IT READS IS OF BULK AT MOST 1048576: true; the input reads as it did. -/
def digestTextsUptoRow : OpenClaim := { program := "ytdjolpclkbfeoaa", sum := "1dfae0fc484d7d89f25e6a15cd945b12f0365ba363b339177c79a22662525e30", func := "framewise/framewiselaw02.DigestTexts", spec := "digestTexts", unfollowed := true, recurses := true, apart := false, narrowed := true }
def DigestTextsUptoSaid : Prop := digestTextsUptoRow.holds Try.pinned (OpenSpec.upto digestTextsSpec)

/-- 'framewiselaw02.DigestChanges', WHERE WHAT IT READS IS OF BULK AT MOST 1048576: true; the input reads as it did. -/
def digestChangesUptoRow : OpenClaim := { program := "ytdjolpclkbfeoaa", sum := "1dfae0fc484d7d89f25e6a15cd945b12f0365ba363b339177c79a22662525e30", func := "framewise/framewiselaw02.DigestChanges", spec := "digestChanges", unfollowed := true, recurses := true, apart := false, narrowed := true }
def DigestChangesUptoSaid : Prop := digestChangesUptoRow.holds Try.pinned (OpenSpec.upto digestChangesSpec)

/-- 'framewiselaw02.DigestNumbers', WHERE WHAT IT READS IS OF BULK AT MOST 1048576: true; the input reads as it did. -/
def digestNumbersUptoRow : OpenClaim := { program := "ytdjolpclkbfeoaa", sum := "1dfae0fc484d7d89f25e6a15cd945b12f0365ba363b339177c79a22662525e30", func := "framewise/framewiselaw02.DigestNumbers", spec := "digestNumbers", unfollowed := true, recurses := true, apart := false, narrowed := true }
def DigestNumbersUptoSaid : Prop := digestNumbersUptoRow.holds Try.pinned (OpenSpec.upto digestNumbersSpec)

/-- 'framewiselaw02.DigestPowers', WHERE WHAT IT READS IS OF BULK AT MOST 1048576: true; the input reads as it did. -/
def digestPowersUptoRow : OpenClaim := { program := "ytdjolpclkbfeoaa", sum := "1dfae0fc484d7d89f25e6a15cd945b12f0365ba363b339177c79a22662525e30", func := "framewise/framewiselaw02.DigestPowers", spec := "digestPowers", unfollowed := true, recurses := true, apart := false, narrowed := true }
def DigestPowersUptoSaid : Prop := digestPowersUptoRow.holds Try.pinned (OpenSpec.upto digestPowersSpec)

/-- 'framewiselaw02.DigestSeals', WHERE WHAT IT READS IS OF BULK AT MOST 1048576: true; the input reads as it did. -/
def digestSealsUptoRow : OpenClaim := { program := "ytdjolpclkbfeoaa", sum := "1dfae0fc484d7d89f25e6a15cd945b12f0365ba363b339177c79a22662525e30", func := "framewise/framewiselaw02.DigestSeals", spec := "digestSeals", unfollowed := true, recurses := true, apart := false, narrowed := true }
def DigestSealsUptoSaid : Prop := digestSealsUptoRow.holds Try.pinned (OpenSpec.upto digestSealsSpec)

/-- 'framewiselaw02.DigestParts', WHERE WHAT IT READS IS OF BULK AT MOST 1048576: true; the input reads as it did. -/
def digestPartsUptoRow : OpenClaim := { program := "ytdjolpclkbfeoaa", sum := "1dfae0fc484d7d89f25e6a15cd945b12f0365ba363b339177c79a22662525e30", func := "framewise/framewiselaw02.DigestParts", spec := "digestParts", unfollowed := true, recurses := true, apart := false, narrowed := true }
def DigestPartsUptoSaid : Prop := digestPartsUptoRow.holds Try.pinned (OpenSpec.upto digestPartsSpec)

/-- 'framewiselaw02.DigestOf', WHERE WHAT IT READS IS OF BULK AT MOST 1048576: true; the input reads as it did. -/
def digestOfUptoRow : OpenClaim := { program := "ytdjolpclkbfeoaa", sum := "1dfae0fc484d7d89f25e6a15cd945b12f0365ba363b339177c79a22662525e30", func := "framewise/framewiselaw02.DigestOf", spec := "digestOf", unfollowed := true, recurses := true, apart := false, narrowed := true }
def DigestOfUptoSaid : Prop := digestOfUptoRow.holds Try.pinned (OpenSpec.upto digestOfSpec)

end Rows
end Go.Proofs.Ytdjolpclkbfeoaa
