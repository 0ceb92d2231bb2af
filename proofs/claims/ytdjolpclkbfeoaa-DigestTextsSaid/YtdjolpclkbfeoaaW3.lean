/- The powers: of the program, whose loop runs a closure over three captured variables, and of the reference. -/
import Derived.Test.YtdjolpclkbfeoaaW2
namespace Go.Proofs.Ytdjolpclkbfeoaa
set_option linter.unusedVariables false
open Go.RowKit

/-- The three captured variables: n, out, base, in the blocks B, B + 1, B + 2. -/
structure Cap (B : Nat) (w : World) (n o b : Int) : Prop where
  n : w.cell? ⟨B, 0, none⟩ = some (.int .i64 n)
  o : w.cell? ⟨B + 1, 0, none⟩ = some (.int .i64 o)
  b : w.cell? ⟨B + 2, 0, none⟩ = some (.int .i64 b)
  fn : w.frozen? ⟨B, 0, none⟩ = false
  fo : w.frozen? ⟨B + 1, 0, none⟩ = false
  fb : w.frozen? ⟨B + 2, 0, none⟩ = false
theorem Cap.below {B : Nat} {w w' : World} {n o b : Int} (h : Cap B w n o b) (hb : Below w.heap.size w w') : Cap B w' n o b :=
  ⟨by rw [hb.cell (cell_lt h.n)]; exact h.n, by rw [hb.cell (cell_lt h.o)]; exact h.o, by rw [hb.cell (cell_lt h.b)]; exact h.b,
   by rw [hb.frozen (cell_lt h.n)]; exact h.fn, by rw [hb.frozen (cell_lt h.o)]; exact h.fo, by rw [hb.frozen (cell_lt h.b)]; exact h.fb⟩
theorem Cap.setO {B : Nat} {w : World} {n o b : Int} (h : Cap B w n o b) (v : Int) : Cap B (w.setCell ⟨B + 1, 0, none⟩ (.int .i64 v)) n v b :=
  ⟨by simp [go_sem, h.n], by simp [go_sem, h.o], by simp [go_sem, h.b], by simp [go_sem, h.fn], by simp [go_sem, h.fo], by simp [go_sem, h.fb]⟩
theorem Cap.setB {B : Nat} {w : World} {n o b : Int} (h : Cap B w n o b) (v : Int) : Cap B (w.setCell ⟨B + 2, 0, none⟩ (.int .i64 v)) n o v :=
  ⟨by simp [go_sem, h.n], by simp [go_sem, h.o], by simp [go_sem, h.b], by simp [go_sem, h.fn], by simp [go_sem, h.fo], by simp [go_sem, h.fb]⟩
theorem Cap.setN {B : Nat} {w : World} {n o b : Int} (h : Cap B w n o b) (v : Int) : Cap B (w.setCell ⟨B, 0, none⟩ (.int .i64 v)) v o b :=
  ⟨by simp [go_sem, h.n], by simp [go_sem, h.o], by simp [go_sem, h.b], by simp [go_sem, h.fn], by simp [go_sem, h.fo], by simp [go_sem, h.fb]⟩

set_option maxRecDepth 100000 in
theorem step_odd (B : Nat) (n o b : Int) (w : World) (h : Cap B w n o b) (ho : In o) (hb : In b) (h1 : n % 2 = 1) :
    Calls Try.prog 35 #[.pointer (some ⟨B, 0, none⟩), .pointer (some ⟨B + 1, 0, none⟩), .pointer (some ⟨B + 2, 0, none⟩)] w fun e w' => e = .returned (.tuple #[]) ∧ Cap B w' n (o * b % 2305843009213693951) (b * b % 2305843009213693951) ∧ Below B w w' := by
  have m1 := and_1
  obtain ⟨ho1, ho2⟩ := ho
  obtain ⟨hb1, hb2⟩ := hb
  have ht : (n % 2 == 1) = true := by rw [h1]; rfl
  have hs : B + 2 < w.heap.size := cell_lt h.b
  have hn := h.n
  have hoo := h.o
  have hbb := h.b
  clear h1
  go_enter Try.func35, Try.ntmps35
  go_wp2_with fail
  refine (times_any _ _ _ ho1 ho2 hb1 hb2).mono ?_
  rintro e w1 ⟨rfl, hw1⟩
  have h1 := h.below hw1
  clear hn hoo hbb
  have hn := h1.n
  have hoo := h1.o
  have hbb := h1.b
  have hfo := h1.fo
  have hfb := h1.fb
  go_wp2_with fail
  refine (times_any _ _ _ hb1 hb2 hb1 hb2).mono ?_
  rintro e w2 ⟨rfl, hw2⟩
  have h2 := (h1.setO (o * b % 2305843009213693951)).below hw2
  have hfb2 := h2.fb
  have hb2' := h2.b
  clear hn hoo hbb hfo hfb
  go_wp2_with fail
  go_end0
  refine ⟨rfl, h2.setB _, ?_⟩
  exact (((Below.mono hw1 (by omega)).setCell (by simp) _).trans (hw2.mono (by simp [World.setCell]; have := hw1.size; omega))).setCell (by simp) _
set_option maxRecDepth 100000 in
theorem step_even (B : Nat) (n o b : Int) (w : World) (h : Cap B w n o b) (hb : In b) (h1 : n % 2 ≠ 1) :
    Calls Try.prog 35 #[.pointer (some ⟨B, 0, none⟩), .pointer (some ⟨B + 1, 0, none⟩), .pointer (some ⟨B + 2, 0, none⟩)] w fun e w' => e = .returned (.tuple #[]) ∧ Cap B w' n o (b * b % 2305843009213693951) ∧ Below B w w' := by
  have m1 := and_1
  obtain ⟨hb1, hb2⟩ := hb
  have ht : (n % 2 == 1) = false := by simpa using h1
  have hs : B + 2 < w.heap.size := cell_lt h.b
  have hn := h.n
  have hbb := h.b
  clear h1
  go_enter Try.func35, Try.ntmps35
  go_wp2_with fail
  refine (times_any _ _ _ hb1 hb2 hb1 hb2).mono ?_
  rintro e w2 ⟨rfl, hw2⟩
  have h2 := h.below hw2
  have hfb2 := h2.fb
  have hb2' := h2.b
  clear hn hbb
  go_wp2_with fail
  go_end0
  refine ⟨rfl, h2.setB _, ?_⟩
  exact (Below.mono hw2 (by omega)).setCell (by simp) _
theorem power_step (B : Nat) (N : Nat) (n o b : Int) (w : World) (h : Cap B w n o b) (ho : In o) (hb : In b) (hn : 0 ≤ n) (H : Owed N o b n) :
    Calls Try.prog 35 #[.pointer (some ⟨B, 0, none⟩), .pointer (some ⟨B + 1, 0, none⟩), .pointer (some ⟨B + 2, 0, none⟩)] w fun e w' => e = .returned (.tuple #[]) ∧ (∃ o' b', Cap B w' n o' b' ∧ In o' ∧ In b' ∧ Owed N o' b' (n / 2)) ∧ Below B w w' := by
  by_cases h1 : n % 2 = 1
  · exact (step_odd B n o b w h ho hb h1).mono fun e w' ⟨he, hc, hw⟩ => ⟨he, ⟨_, _, hc, In.mod _, In.mod _, H.odd hn h1⟩, hw⟩
  · exact (step_even B n o b w h hb h1).mono fun e w' ⟨he, hc, hw⟩ => ⟨he, ⟨_, _, hc, ho, In.mod _, H.even hn h1⟩, hw⟩

/-- What the loop of 'power' keeps. -/
def PowInv (B N : Nat) (w0 w : World) (n : Int) : Prop := 0 ≤ n ∧ (∃ o b, Cap B w n o b ∧ In o ∧ In b ∧ Owed N o b n) ∧ Below B w0 w
set_option maxRecDepth 100000 in
theorem power_any (n : Int) (w : World) (h0 : 0 ≤ n) (hn : n ≤ 9223372036854775807) : Calls Try.prog 32 #[.int .i64 n] w fun e w' => e = .returned (.int .i64 (pw n.toNat)) ∧ Below w.heap.size w w' := by
  have hmf : ∀ (fn : Fn) (first cap : Array Value) (w : World), (Instr.makeFunc fn first cap).run Try.prog w = .ok (.func fn first cap) w := fun _ _ _ _ => rfl
  go_enter Try.func32, Try.ntmps32
  go_wp2_with fail
  go_loopg [] n.toNat (fun k wr => PowInv w.heap.size n.toNat w wr (k : Int))
  case atStart => exact ⟨by omega, ⟨1, 1000003, ⟨by simp [go_sem]; omega, by simp [go_sem], by simp [go_sem], by simp [go_sem], by simp [go_sem], by simp [go_sem]⟩, ⟨by decide, by decide⟩, ⟨by decide, by decide⟩, Owed.start _⟩, by go_grown⟩
  case round =>
    obtain ⟨_, ⟨o, b, hc, ho, hb, how⟩, hB⟩ := hrel
    have c1 := hc.n
    have c2 := hc.o
    have g1 := hc.fn
    by_cases hg : 0 < gk
    · have hlt : (0 : Int) < (gk : Int) := by omega
      go_wp2_with fail
      refine (power_step w.heap.size n.toNat gk o b wr hc ho hb (by omega) how).mono ?_
      rintro e w1 ⟨rfl, ⟨o', b', hc', ho', hb', how'⟩, hB'⟩
      have d1 := hc'.n
      have g1' := hc'.fn
      clear c1 c2 g1
      go_wp2_with fail
      go_roundg (gk / 2)
      case measure => omega
      case rel => exact ⟨by omega, ⟨o', b', by have := hc'.setN ((gk : Int) / 2); exact this, ho', hb', by have := how'; exact this⟩, (hB.trans hB').setCell (by simp) _⟩
    · obtain rfl : gk = 0 := by omega
      go_wp2_with fail
      go_ret
      exact ⟨by rw [how.done ho (by omega)]; rfl, hB⟩
end Go.Proofs.Ytdjolpclkbfeoaa
