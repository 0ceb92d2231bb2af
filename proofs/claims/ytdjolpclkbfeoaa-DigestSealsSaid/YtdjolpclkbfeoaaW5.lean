/- The contracts of the reference's More, Of, Power and Join. -/
import Derived.Test.YtdjolpclkbfeoaaW4
import Derived.Deep.QuietTactic
import Derived.BigQuiet
namespace Go.Proofs.Ytdjolpclkbfeoaa
set_option linter.unusedVariables false
open Go.RowKit

theorem not_in {d : Int} (h : ¬ (0 ≤ d ∧ d < 2305843009213693951)) : d < 0 ∨ (0 ≤ d ∧ 2305843009213693951 ≤ d) := by omega
set_option maxRecDepth 100000 in
theorem rMore_any (d : Int) (a : Option Addr) (len cap : Nat) (l : List Int) (w : World) (hr : Rd w a len l) (hlen : len ≤ maxLen) :
    Calls Try.prog 24 #[.int .i64 d, .slice a len cap] w fun e w' => e = .returned (.tuple #[.int .i64 (moreV d l), .int .i64 (moreE d)]) ∧ Below w.heap.size w w' := by
  unfold maxLen at hlen
  have HR := Lib.hid hr
  clear hr
  by_cases h : 0 ≤ d ∧ d < 2305843009213693951
  · unfold moreV moreE
    rw [if_pos h, if_pos h]
    have hd : In d := h
    obtain ⟨h1, h2⟩ := h
    have h1' : ¬ d < 0 := by omega
    have h2' : ¬ 2305843009213693951 ≤ d := by omega
    cases a with
    | none =>
      have hl : len = 0 := by
        rcases Nat.eq_zero_or_pos len with h | h
        · exact h
        · obtain ⟨b, off, e, _⟩ := HR.out.2.2 0 h; cases e
      subst hl
      have hl : l = [] := List.eq_nil_of_length_eq_zero HR.out.1
      subst hl
      go_enter Try.func24, Try.ntmps24
      go_wp2_with fail
      refine wp_loop_rounds 1 ?_
      rw [rounds_succ]
      go_wp2_with fail
      go_ret2
      exact ⟨rfl, Below.refl _ _⟩
    | some a =>
      obtain ⟨b, off, sp⟩ := a
      go_enter Try.func24, Try.ntmps24
      go_wp2_with fail
      go_loopw [0, 6] (fun x i wr => ∃ k : Nat, k ≤ len ∧ i = .int .i64 k ∧ x = .int .i64 (dg d (l.take k)) ∧ Below w.heap.size w wr) (fun _ i _ => len - (intOf i).toNat)
      case atStart => exact ⟨0, Nat.zero_le _, rfl, rfl, Below.refl _ _⟩
      case round =>
        obtain ⟨k, hk, rfl, rfl, hB⟩ := hrel
        by_cases hlt : k < len
        · obtain ⟨b', off', e, hc⟩ := (HR.out.below hB).2.2 k hlt
          cases e
          have hby := HR.out.byte k
          have hin := dg_in (l.take k) d hd
          obtain ⟨hin1, hin2⟩ := hin
          have H : Hid _ := Lib.hid (dg_step l d k (by rw [HR.out.1]; exact hlt))
          generalize hv : l.getD k 0 = v at *
          generalize hu : dg d (l.take k) = u at *
          have HV := Lib.hid hv
          have HU := Lib.hid hu
          clear hv hu
          have hm : 0 ≤ u * 1000003 % 2305843009213693951 ∧ u * 1000003 % 2305843009213693951 < 2305843009213693951 := In.mod _
          obtain ⟨hm1, hm2⟩ := hm
          go_wp2_with fail
          go_quiet ((go_at_call 33; exact Calls.quiet_of_same ((mul_any _ _ _ hin1 hin2 (by omega) (by omega)).mono fun e w' h => ⟨h.1, h.2.symm⟩)))
          go_wp2_with fail
          go_roundw
          case rel =>
            exact ⟨k + 1, by omega, by go_num, by rw [← H.out], below_drewN hB _⟩
          case measure => simp [intOf]; omega
        · go_wp2_with fail
          go_ret2
          exact ⟨by rw [List.take_of_length_le (by rw [HR.out.1]; omega)]; rfl, hB⟩
  · unfold moreV moreE
    rw [if_neg h, if_neg h]
    rcases not_in h with h1 | ⟨h1, h2⟩
    all_goals
      go_enter Try.func24, Try.ntmps24
      go_wp2_with fail
      go_ret2
      exact ⟨rfl, Below.refl _ _⟩
set_option maxRecDepth 100000 in
theorem rOf_any (a : Option Addr) (len cap : Nat) (l : List Int) (w : World) (hr : Rd w a len l) (hlen : len ≤ maxLen) :
    Calls Try.prog 26 #[.slice a len cap] w fun e w' => e = .returned (.int .i64 (dg 0 l)) ∧ Below w.heap.size w w' := by
  have HR := Lib.hid hr
  clear hr
  go_enter Try.func26, Try.ntmps26
  go_wp2_with fail
  refine (rMore_any 0 a len cap l _ HR.out hlen).mono ?_
  rintro e w1 ⟨rfl, hb⟩
  go_wp2_with fail
  go_ret
  exact ⟨rfl, hb⟩
set_option maxRecDepth 100000 in
theorem rPower_any (n : Int) (w : World) (hn : n ≤ 9223372036854775807) :
    Calls Try.prog 18 #[.int .i64 n] w fun e w' => e = .returned (.tuple #[.int .i64 (powV n), .int .i64 (powE n)]) ∧ w = w' := by
  by_cases h : n < 0
  · unfold powV powE
    rw [if_pos h, if_pos h]
    go_enter Try.func18, Try.ntmps18
    go_wp2_with fail
    go_ret2
    exact ⟨rfl, rfl⟩
  · unfold powV powE
    rw [if_neg h, if_neg h]
    obtain ⟨N, rfl⟩ : ∃ N : Nat, n = N := ⟨n.toNat, by omega⟩
    rw [Int.toNat_natCast]
    have h0 : ¬ (N : Int) < 0 := h
    go_enter Try.func18, Try.ntmps18
    go_wp2_with fail
    go_loop [0, 4, 5] (fun n o b => ∃ n' o' b' : Int, n = .int .i64 n' ∧ o = .int .i64 o' ∧ b = .int .i64 b' ∧ 0 ≤ n' ∧ n' ≤ 9223372036854775807 ∧ In o' ∧ In b' ∧ Owed N o' b' n') (fun n _ _ => (intOf n).toNat)
    case atStart => exact ⟨N, 1, 1000003, rfl, rfl, rfl, by omega, by omega, ⟨by decide, by decide⟩, ⟨by decide, by decide⟩, Owed.start _⟩
    case round =>
      obtain ⟨n, o, b, rfl, rfl, rfl, hn0, hn1, ho, hb, how⟩ := hrel
      have ho' := ho
      have hb' := hb
      obtain ⟨ho1, ho2⟩ := ho'
      obtain ⟨hb1, hb2⟩ := hb'
      by_cases hp : 0 < n
      · by_cases hodd : n % 2 = 1
        · have HO := Lib.hid hodd
          have ht : (n % 2 == 1) = true := by rw [hodd]; rfl
          clear hodd
          go_wp2_with fail
          refine (mul_any o b _ ho1 ho2 hb1 hb2).mono ?_
          rintro e w1 ⟨rfl, rfl⟩
          go_wp2_with fail
          refine (mul_any b b _ hb1 hb2 hb1 hb2).mono ?_
          rintro e w1 ⟨rfl, rfl⟩
          go_wp2_with fail
          go_round
          case rel => exact ⟨_, _, _, rfl, rfl, rfl, by omega, by omega, In.mod _, In.mod _, how.odd hn0 HO.out⟩
          case measure => simp [intOf]; omega
        · have HO := Lib.hid hodd
          have ht : (n % 2 == 1) = false := by simpa using hodd
          clear hodd
          go_wp2_with fail
          refine (mul_any b b _ hb1 hb2 hb1 hb2).mono ?_
          rintro e w1 ⟨rfl, rfl⟩
          go_wp2_with fail
          go_round
          case rel => exact ⟨_, _, _, rfl, rfl, rfl, by omega, by omega, ho, In.mod _, how.even hn0 HO.out⟩
          case measure => simp [intOf]; omega
      · go_wp2_with fail
        go_ret2
        exact ⟨by rw [how.done ho (by omega)]; rfl, rfl⟩
theorem not_joinOk {a b n : Int} (h : ¬ JoinOk a b n) : a < 0 ∨ (0 ≤ a ∧ 2305843009213693951 ≤ a) ∨ (0 ≤ a ∧ a < 2305843009213693951 ∧ b < 0) ∨ (0 ≤ a ∧ a < 2305843009213693951 ∧ 0 ≤ b ∧ 2305843009213693951 ≤ b) ∨ (0 ≤ a ∧ a < 2305843009213693951 ∧ 0 ≤ b ∧ b < 2305843009213693951 ∧ n < 0) := by
  unfold JoinOk at h; omega
set_option maxRecDepth 100000 in
theorem rJoin_any (a b n : Int) (w : World) (hn : n ≤ 9223372036854775807) :
    Calls Try.prog 16 #[.int .i64 a, .int .i64 b, .int .i64 n] w fun e w' => e = .returned (.tuple #[.int .i64 (joinV a b n), .int .i64 (joinE a b n)]) ∧ w = w' := by
  by_cases h : JoinOk a b n
  · unfold joinV joinE
    rw [if_pos h, if_pos h]
    obtain ⟨⟨h1, h2⟩, ⟨h3, h4⟩, h5⟩ := h
    have q1 : ¬ a < 0 := by omega
    have q2 : ¬ 2305843009213693951 ≤ a := by omega
    have q3 : ¬ b < 0 := by omega
    have q4 : ¬ 2305843009213693951 ≤ b := by omega
    have q5 : ¬ n < 0 := by omega
    have e1 : powV n = pw n.toNat := if_neg q5
    have hp := pw_in n.toNat
    obtain ⟨hp1, hp2⟩ := hp
    have hj := join_mod a b (pw n.toNat)
    have hx : 0 ≤ a * pw n.toNat % 2305843009213693951 ∧ a * pw n.toNat % 2305843009213693951 < 2305843009213693951 := In.mod _
    obtain ⟨hx1, hx2⟩ := hx
    generalize hP : pw n.toNat = p at *
    have HP := Lib.hid hP
    clear hP
    go_enter Try.func16, Try.ntmps16
    go_wp2_with fail
    refine (rPower_any n _ hn).mono ?_
    rintro e w1 ⟨rfl, rfl⟩
    go_wp2_with fail
    refine (mul_any _ _ _ h1 h2 hp1 hp2).mono ?_
    rintro e w2 ⟨rfl, rfl⟩
    go_wp2_with fail
    go_ret2
    exact ⟨by rw [← hj]; rfl, rfl⟩
  · unfold joinV joinE
    rw [if_neg h, if_neg h]
    rcases not_joinOk h with h | ⟨h1, h2⟩ | ⟨h1, h2, h3⟩ | ⟨h1, h2, h3, h4⟩ | ⟨h1, h2, h3, h4, h5⟩
    all_goals
      go_enter Try.func16, Try.ntmps16
      go_wp2_with fail
      go_ret2
      exact ⟨rfl, rfl⟩
end Go.Proofs.Ytdjolpclkbfeoaa
