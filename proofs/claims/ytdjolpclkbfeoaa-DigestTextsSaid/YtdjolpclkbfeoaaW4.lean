/- The contracts of Of, More, Power and Join, of the program and of the reference. -/
import Derived.Test.YtdjolpclkbfeoaaW3
namespace Go.Proofs.Ytdjolpclkbfeoaa
set_option linter.unusedVariables false
open Go.RowKit

set_option maxRecDepth 100000 in
theorem of_any (a : Option Addr) (len cap : Nat) (l : List Int) (w : World) (hr : Rd w a len l) (hlen : len ≤ maxLen) :
    Calls Try.prog 14 #[.slice a len cap] w fun e w' => e = .returned (.int .i64 (dg 0 l)) ∧ Below w.heap.size w w' := by
  have HR := Lib.hid hr
  clear hr
  go_enter Try.func14, Try.ntmps14
  go_wp2_with fail
  refine (more_any 0 a len cap l _ ⟨by decide, by decide⟩ HR.out hlen).mono ?_
  rintro e w1 ⟨rfl, hb⟩
  go_wp2_with fail
  go_ret
  exact ⟨rfl, hb⟩
/-- What More says. -/
def moreV (d : Int) (l : List Int) : Int := if 0 ≤ d ∧ d < 2305843009213693951 then dg d l else 0
def moreE (d : Int) : Int := if 0 ≤ d ∧ d < 2305843009213693951 then 0 else 2
set_option maxRecDepth 100000 in
theorem More_any (d : Int) (a : Option Addr) (len cap : Nat) (l : List Int) (w : World) (hr : Rd w a len l) (hlen : len ≤ maxLen) :
    Calls Try.prog 23 #[.int .i64 d, .slice a len cap] w fun e w' => e = .returned (.tuple #[.int .i64 (moreV d l), .int .i64 (moreE d)]) ∧ Below w.heap.size w w' := by
  have HR := Lib.hid hr
  clear hr
  by_cases h : 0 ≤ d ∧ d < 2305843009213693951
  · have ht : decide (0 ≤ d ∧ d < 2305843009213693951) = true := decide_eq_true h
    unfold moreV moreE
    rw [if_pos h, if_pos h]
    go_enter Try.func23, Try.ntmps23
    go_wp2_with fail
    refine (in_any d _).mono ?_
    rintro e w1 ⟨rfl, rfl⟩
    go_wp2_with fail
    refine (more_any d a len cap l _ h HR.out hlen).mono ?_
    rintro e w1 ⟨rfl, hb⟩
    go_wp2_with fail
    go_ret2
    exact ⟨rfl, hb⟩
  · have ht : decide (0 ≤ d ∧ d < 2305843009213693951) = false := decide_eq_false h
    unfold moreV moreE
    rw [if_neg h, if_neg h]
    go_enter Try.func23, Try.ntmps23
    go_wp2_with fail
    refine (in_any d _).mono ?_
    rintro e w1 ⟨rfl, rfl⟩
    go_wp2_with fail
    go_ret2
    exact ⟨rfl, Below.refl _ _⟩
def powV (n : Int) : Int := if n < 0 then 0 else pw n.toNat
def powE (n : Int) : Int := if n < 0 then 2 else 0
set_option maxRecDepth 100000 in
theorem Power_any (n : Int) (w : World) (hn : n ≤ 9223372036854775807) :
    Calls Try.prog 17 #[.int .i64 n] w fun e w' => e = .returned (.tuple #[.int .i64 (powV n), .int .i64 (powE n)]) ∧ Below w.heap.size w w' := by
  by_cases h : n < 0
  · unfold powV powE
    rw [if_pos h, if_pos h]
    go_enter Try.func17, Try.ntmps17
    go_wp2_with fail
    go_ret2
    exact ⟨rfl, Below.refl _ _⟩
  · unfold powV powE
    rw [if_neg h, if_neg h]
    go_enter Try.func17, Try.ntmps17
    go_wp2_with fail
    refine (power_any n _ (by omega) hn).mono ?_
    rintro e w1 ⟨rfl, hb⟩
    go_wp2_with fail
    go_ret2
    exact ⟨rfl, hb⟩
def JoinOk (a b n : Int) : Prop := (0 ≤ a ∧ a < 2305843009213693951) ∧ (0 ≤ b ∧ b < 2305843009213693951) ∧ 0 ≤ n
instance (a b n : Int) : Decidable (JoinOk a b n) := by unfold JoinOk; infer_instance
def joinV (a b n : Int) : Int := if JoinOk a b n then (a * pw n.toNat + b) % 2305843009213693951 else 0
def joinE (a b n : Int) : Int := if JoinOk a b n then 0 else 2
theorem join_mod (a b n : Int) : (a * n % 2305843009213693951 + b) % 2305843009213693951 = (a * n + b) % 2305843009213693951 := Int.emod_add_emod _ _ _
set_option maxRecDepth 100000 in
theorem Join_any (a b n : Int) (w : World) (hn : n ≤ 9223372036854775807) :
    Calls Try.prog 15 #[.int .i64 a, .int .i64 b, .int .i64 n] w fun e w' => e = .returned (.tuple #[.int .i64 (joinV a b n), .int .i64 (joinE a b n)]) ∧ Below w.heap.size w w' := by
  by_cases h1 : 0 ≤ a ∧ a < 2305843009213693951
  · by_cases h2 : 0 ≤ b ∧ b < 2305843009213693951
    · have t1 : decide (0 ≤ a ∧ a < 2305843009213693951) = true := decide_eq_true h1
      have t2 : decide (0 ≤ b ∧ b < 2305843009213693951) = true := decide_eq_true h2
      by_cases h3 : 0 ≤ n
      · unfold joinV joinE
        rw [if_pos ⟨h1, h2, h3⟩, if_pos ⟨h1, h2, h3⟩]
        have hp := pw_in n.toNat
        obtain ⟨ha1, ha2⟩ := h1
        obtain ⟨hb1, hb2⟩ := h2
        obtain ⟨hp1, hp2⟩ := hp
        have hj := join_mod a b (pw n.toNat)
        have hx : 0 ≤ a * pw n.toNat % 2305843009213693951 ∧ a * pw n.toNat % 2305843009213693951 < 2305843009213693951 := In.mod _
        obtain ⟨hx1, hx2⟩ := hx
        generalize hP : pw n.toNat = p at *
        have HP := Lib.hid hP
        clear hP
        go_enter Try.func15, Try.ntmps15
        go_wp2_with fail
        refine (in_any a _).mono ?_
        rintro e w1 ⟨rfl, rfl⟩
        go_wp2_with fail
        refine (in_any b _).mono ?_
        rintro e w1 ⟨rfl, rfl⟩
        go_wp2_with fail
        refine (power_any n _ h3 hn).mono ?_
        rintro e w1 ⟨rfl, hb⟩
        rw [HP.out]
        go_wp2_with fail
        refine (times_any _ _ _ ha1 ha2 hp1 hp2).mono ?_
        rintro e w2 ⟨rfl, hb'⟩
        go_wp2_with fail
        go_ret2
        exact ⟨by rw [← hj]; rfl, hb.trans (hb'.mono hb.size)⟩
      · have hng : ¬ JoinOk a b n := fun h => h3 h.2.2
        unfold joinV joinE
        rw [if_neg hng, if_neg hng]
        clear hng
        go_enter Try.func15, Try.ntmps15
        go_wp2_with fail
        refine (in_any a _).mono ?_
        rintro e w1 ⟨rfl, rfl⟩
        go_wp2_with fail
        refine (in_any b _).mono ?_
        rintro e w1 ⟨rfl, rfl⟩
        go_wp2_with fail
        go_ret2
        exact ⟨rfl, Below.refl _ _⟩
    · have hng : ¬ JoinOk a b n := fun h => h2 h.2.1
      have t1 : decide (0 ≤ a ∧ a < 2305843009213693951) = true := decide_eq_true h1
      have t2 : decide (0 ≤ b ∧ b < 2305843009213693951) = false := decide_eq_false h2
      unfold joinV joinE
      rw [if_neg hng, if_neg hng]
      clear hng
      go_enter Try.func15, Try.ntmps15
      go_wp2_with fail
      refine (in_any a _).mono ?_
      rintro e w1 ⟨rfl, rfl⟩
      go_wp2_with fail
      refine (in_any b _).mono ?_
      rintro e w1 ⟨rfl, rfl⟩
      go_wp2_with fail
      go_ret2
      exact ⟨rfl, Below.refl _ _⟩
  · have hng : ¬ JoinOk a b n := fun h => h1 h.1
    have t1 : decide (0 ≤ a ∧ a < 2305843009213693951) = false := decide_eq_false h1
    unfold joinV joinE
    rw [if_neg hng, if_neg hng]
    clear hng
    go_enter Try.func15, Try.ntmps15
    go_wp2_with fail
    refine (in_any a _).mono ?_
    rintro e w1 ⟨rfl, rfl⟩
    go_wp2_with fail
    go_ret2
    exact ⟨rfl, Below.refl _ _⟩
end Go.Proofs.Ytdjolpclkbfeoaa
