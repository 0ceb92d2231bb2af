import Derived.Test.YtdjolpclkbfeoaaProg
import Derived.Test.YtdjolpclkbfeoaaMath
import Derived.WalkKit
import Derived.WalkLawsBesides
import Derived.WalkSpells
import Derived.Lib.Hide
import Derived.Handy
import Derived.Deep.LoopGhost
namespace Go.Proofs.Ytdjolpclkbfeoaa
set_option linter.unusedVariables false
open Go.RowKit
set_option maxRecDepth 100000 in
theorem in_any (d : Int) (w : World) : Calls Try.prog 29 #[.int .i64 d] w fun e w' => e = .returned (.bool (decide (0 ≤ d ∧ d < 2305843009213693951))) ∧ w = w' := by
  by_cases h0 : 0 ≤ d <;> by_cases h1 : d < 2305843009213693951
  all_goals
    go_enter Try.func29, Try.ntmps29
    go_wp2_with fail
    go_ret
    exact ⟨by simp [h0, h1], rfl⟩
set_option maxRecDepth 100000 in
set_option maxHeartbeats 1000000 in
theorem times_raw (a b x0 x1 y0 y1 : Int) (w : World) (h0 : 0 ≤ x0) (h0' : x0 < 2147483648) (h1 : 0 ≤ x1) (h1' : x1 < 1073741824) (k0 : 0 ≤ y0) (k0' : y0 < 2147483648) (k1 : 0 ≤ y1) (k1' : y1 < 1073741824)
    (ea : a % 2147483648 = x0) (eb : b % 2147483648 = y0) (fa : a / 2147483648 = x1) (fb : b / 2147483648 = y1) (p00 : 0 ≤ x0 * y0) (p00' : x0 * y0 ≤ 4611686014132420609) (p01 : 0 ≤ x0 * y1) (p01' : x0 * y1 ≤ 2305843007066210304)
    (p10 : 0 ≤ x1 * y0) (p10' : x1 * y0 ≤ 2305843007066210304) (p11 : 0 ≤ x1 * y1) (p11' : x1 * y1 ≤ 1152921504606846976) (ha : 0 ≤ a) (ha' : a < 2305843009213693951) (hb : 0 ≤ b) (hb' : b < 2305843009213693951) :
    Calls Try.prog 31 #[.int .i64 a, .int .i64 b] w fun e w' => e = .returned (.int .i64 ((x0 * y0 % 2305843009213693951 + (x0 * y1 + x1 * y0) / 1073741824 + (x0 * y1 + x1 * y0) % 1073741824 * 2147483648 % 2305843009213693951 + 2 * (x1 * y1) % 2305843009213693951) % 2305843009213693951)) ∧ Below w.heap.size w w' := by
  have m1 := and_mask31
  have m2 := and_mask30
  have i0 : ∀ (x y : Value) w, (Instr.index 52 (.agg #[x, y]) (.int .i64 0)).run Try.prog w = .ok x w := fun _ _ _ => by kernel_rfl
  have i1 : ∀ (x y : Value) w, (Instr.index 52 (.agg #[x, y]) (.int .i64 1)).run Try.prog w = .ok y w := fun _ _ _ => by kernel_rfl
  go_enter Try.func31, Try.ntmps31
  go_wp2_with fail
  refine wp_loop_rounds 3 ?_
  rw [rounds_succ]
  go_wp2_with fail
  refine wp_loop_rounds 3 ?_
  rw [rounds_succ]
  go_wp2_with fail
  rw [rounds_succ]
  go_wp2_with fail
  rw [rounds_succ]
  go_wp2_with fail
  rw [rounds_succ]
  go_wp2_with fail
  refine wp_loop_rounds 3 ?_
  rw [rounds_succ]
  go_wp2_with fail
  rw [rounds_succ]
  go_wp2_with fail
  rw [rounds_succ]
  go_wp2_with fail
  rw [rounds_succ]
  go_wp2_with fail
  go_ret
  exact ⟨rfl, by go_grown⟩
theorem times_any (a b : Int) (w : World) (ha : 0 ≤ a) (ha' : a < 2305843009213693951) (hb : 0 ≤ b) (hb' : b < 2305843009213693951) :
    Calls Try.prog 31 #[.int .i64 a, .int .i64 b] w fun e w' => e = .returned (.int .i64 (a * b % 2305843009213693951)) ∧ Below w.heap.size w w' := by
  have hm : ∀ (x y X Y : Int), 0 ≤ x → x ≤ X → 0 ≤ y → y ≤ Y → 0 ≤ x * y ∧ x * y ≤ X * Y := fun x y X Y h1 h2 h3 h4 => ⟨Int.mul_nonneg h1 h3, Int.mul_le_mul h2 h4 h3 (by omega)⟩
  have b0 : 0 ≤ a % 2147483648 ∧ a % 2147483648 ≤ 2147483647 ∧ 0 ≤ a / 2147483648 ∧ a / 2147483648 ≤ 1073741823 := by omega
  have b1 : 0 ≤ b % 2147483648 ∧ b % 2147483648 ≤ 2147483647 ∧ 0 ≤ b / 2147483648 ∧ b / 2147483648 ≤ 1073741823 := by omega
  have q00 := hm _ _ _ _ b0.1 b0.2.1 b1.1 b1.2.1
  have q01 := hm _ _ _ _ b0.1 b0.2.1 b1.2.2.1 b1.2.2.2
  have q10 := hm _ _ _ _ b0.2.2.1 b0.2.2.2 b1.1 b1.2.1
  have q11 := hm _ _ _ _ b0.2.2.1 b0.2.2.2 b1.2.2.1 b1.2.2.2
  refine (times_raw a b _ _ _ _ w b0.1 (by omega) b0.2.2.1 (by omega) b1.1 (by omega) b1.2.2.1 (by omega) rfl rfl rfl rfl q00.1 (by omega) q01.1 (by omega) q10.1 (by omega) q11.1 (by omega) ha ha' hb hb').mono ?_
  rintro e w' ⟨rfl, hw⟩
  refine ⟨?_, hw⟩
  rw [halves]
  rw [show a / 2147483648 * 2147483648 + a % 2147483648 = a by omega, show b / 2147483648 * 2147483648 + b % 2147483648 = b by omega]
set_option maxRecDepth 100000 in
/-- The reference's product, by doubling. -/
theorem mul_any (a b : Int) (w : World) (ha : 0 ≤ a) (ha' : a < 2305843009213693951) (hb : 0 ≤ b) (hb' : b < 2305843009213693951) :
    Calls Try.prog 33 #[.int .i64 a, .int .i64 b] w fun e w' => e = .returned (.int .i64 (a * b % 2305843009213693951)) ∧ w = w' := by
  go_enter Try.func33, Try.ntmps33
  go_wp2_with fail
  go_loop [0, 1, 5] (fun x y o => ∃ A B O : Int, x = .int .i64 A ∧ y = .int .i64 B ∧ o = .int .i64 O ∧ 0 ≤ A ∧ A < 2305843009213693951 ∧ 0 ≤ B ∧ B < 2305843009213693951 ∧ 0 ≤ O ∧ O < 2305843009213693951 ∧ Hid (a * b % 2305843009213693951 = (O + A * B) % 2305843009213693951)) (fun _ y _ => (intOf y).toNat)
  case atStart => exact ⟨a, b, 0, rfl, rfl, rfl, ha, ha', hb, hb', by omega, by omega, by unfold Hid; rw [Int.zero_add]⟩
  case round =>
    obtain ⟨A, B, O, rfl, rfl, rfl, h1, h2, h3, h4, h5, h6, H⟩ := hrel
    by_cases hB : 0 < B
    · by_cases hodd : B % 2 = 1
      · go_wp2_with fail
        go_round
        case rel => exact ⟨_, _, _, rfl, rfl, rfl, by omega, by omega, by omega, by omega, by omega, by omega, mul_odd _ _ _ _ _ hodd H⟩
        case measure => simp [intOf]; omega
      · go_wp2_with fail
        go_round
        case rel => exact ⟨_, _, _, rfl, rfl, rfl, by omega, by omega, by omega, by omega, by omega, by omega, mul_even _ _ _ _ _ hodd H⟩
        case measure => simp [intOf]; omega
    · go_wp2_with fail
      go_ret
      obtain rfl : B = 0 := by omega
      refine ⟨?_, rfl⟩
      rw [H.out, Int.mul_zero, Int.add_zero, Int.emod_eq_of_lt h5 h6]; rfl
end Go.Proofs.Ytdjolpclkbfeoaa
