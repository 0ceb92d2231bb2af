/- The examples of the document hold. -/
import Derived.Test.YtdjolpclkbfeoaaWA
namespace Go.Proofs.Ytdjolpclkbfeoaa
set_option linter.unusedVariables false
open Go.RowKit
theorem ex_text : bs (printV 1000005) = { data := #[48, 48, 48, 48, 48, 48, 48, 48, 48, 48, 48, 102, 52, 50, 52, 53] } := by
  apply ByteArray.ext
  rfl
theorem ex_nb : nb { data := #[48, 48, 48, 48, 48, 48, 48, 48, 48, 48, 48, 102, 52, 50, 52, 53] } = printV 1000005 := by rw [← ex_text, nb_bs]; decide
set_option maxRecDepth 100000 in
theorem awake_any (w : World) : Calls Try.prog 10 #[] w fun e w' => e = .returned (.bool true) ∧ Below w.heap.size w w' := by
  have h1 : dg 0 [0, 1] = 1000005 := by decide
  have h2 : printE 1000005 = 0 := by decide
  have h3 := (parse_print 1000005 h2).1
  have h3' := (parse_print 1000005 h2).2
  have h4 : powV 2 = 1000006000009 := by decide
  have h5 : powE 2 = 0 := by decide
  have H2 := Lib.hid h2
  have H3 := Lib.hid h3
  have H3' := Lib.hid h3'
  have H4 := Lib.hid h4
  have H5 := Lib.hid h5
  have H1 := Lib.hid h1
  clear h1 h2 h3 h3' h4 h5
  go_enter Try.func10, Try.ntmps10
  go_wp2_with fail
  refine (of_any (some ⟨w.heap.size, 0, none⟩) 2 2 [0, 1] _ (Rd.row (t := 5) (m := (0, 0)) (l := [0, 1]) (by show (w.heap.push _)[w.heap.size]? = _; simp) (by decide)) (by unfold maxLen; omega)).mono ?_
  rintro e w1 ⟨rfl, hb1⟩
  rw [H1.out]
  go_wp2_with fail
  refine (Print_any 1000005 _).mono ?_
  rintro e w2 ⟨rfl, hb2⟩
  rw [ex_text, H2.out]
  go_wp2_with fail
  refine (Parse_any _ _).mono ?_
  rintro e w3 ⟨rfl, hb3⟩
  rw [ex_nb, H3.out, H3'.out]
  go_wp2_with fail
  refine (Power_any 2 _ (by decide)).mono ?_
  rintro e w4 ⟨rfl, hb4⟩
  rw [H4.out, H5.out]
  go_wp2_with fail
  refine (seal_any none 0 0 [] _ (Rd.nil _ _) (fun _ => rfl) (by decide)).mono ?_
  rintro e w5 ⟨v, rfl, hown, hb5⟩
  obtain ⟨a, c, rfl, _⟩ := hown.rd0 (by simpa using tl_byte (dg 0 []))
  go_wp2_with fail
  go_ret
  have b12 := ((((Below.refl w.heap.size w).alloc (Nat.le_refl _) _).trans (hb1.mono (by simp))))
  have b3 := b12.trans (hb2.mono b12.size)
  have b4 := b3.trans (hb3.mono b3.size)
  have b5 := b4.trans (hb4.mono b4.size)
  exact ⟨rfl, b5.trans (hb5.mono b5.size)⟩
end Go.Proofs.Ytdjolpclkbfeoaa
