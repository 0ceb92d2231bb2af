/- The walk of DigestNumbers. -/
import Derived.Test.YtdjolpclkbfeoaaWC
namespace Go.Proofs.Ytdjolpclkbfeoaa
set_option linter.unusedVariables false
open Go.RowKit
set_option maxRecDepth 100000 in
theorem numbers_walk (a b n : Int) (w : World) (hn : n ≤ 9223372036854775807) :
    Calls Try.prog 5 #[.int .i64 a, .int .i64 b, .int .i64 n] w fun e w' => e = .returned (.bool true) ∧ Below w.heap.size w w' := by
  go_enter Try.func5, Try.ntmps5
  go_wp2_with fail
  refine (awake_any _).mono ?_
  rintro e w1 ⟨rfl, hb1⟩
  go_wp2_with fail
  refine (Join_any a b n _ hn).mono ?_
  rintro e w2 ⟨rfl, hb2⟩
  go_wp2_with fail
  refine (rJoin_any a b n _ hn).mono ?_
  rintro e w3 ⟨rfl, rfl⟩
  go_wp2_with fail
  refine (Power_any n _ hn).mono ?_
  rintro e w4 ⟨rfl, hb4⟩
  go_wp2_with fail
  refine (rPower_any n _ hn).mono ?_
  rintro e w5 ⟨rfl, rfl⟩
  go_wp2_with fail
  refine (Print_any a _).mono ?_
  rintro e w6 ⟨rfl, hb6⟩
  go_wp2_with fail
  refine (rPrint_any a _).mono ?_
  rintro e w7 ⟨rfl, rfl⟩
  go_wp2_with fail
  go_ret
  have b2 := hb1.trans (hb2.mono hb1.size)
  have b4 := b2.trans (hb4.mono b2.size)
  exact ⟨rfl, b4.trans (hb6.mono b4.size)⟩
end Go.Proofs.Ytdjolpclkbfeoaa
