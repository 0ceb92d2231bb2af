/- The walks of DigestTexts and DigestPowers. -/
import Derived.Test.YtdjolpclkbfeoaaWC
namespace Go.Proofs.Ytdjolpclkbfeoaa
set_option linter.unusedVariables false
open Go.RowKit
theorem beq_bytes {s t : ByteArray} (h : s = t) : (s.toList == t.toList) = true := by rw [h]; simp
set_option maxRecDepth 100000 in
theorem texts_walk (s : ByteArray) (d : Int) (w : World) : Calls Try.prog 3 #[.string s, .int .i64 d] w fun e w' => e = .returned (.bool true) ∧ Below w.heap.size w w' := by
  by_cases hlen : 40 < s.size
  · have hl : (40 : Int) < (s.size : Int) := by omega
    go_enter Try.func3, Try.ntmps3
    go_wp2_with fail
    refine (awake_any _).mono ?_
    rintro e w1 ⟨rfl, hb1⟩
    go_wp2_with fail
    go_ret
    exact ⟨rfl, hb1⟩
  · have hl : ¬ (40 : Int) < (s.size : Int) := by omega
    have hz : s.size ≤ 40 := by omega
    clear hlen
    by_cases he : parseE (nb s) = 0
    · have hp := print_parse (nb s) he
      have hst : ((bs (printV (parseV (nb s)))).toList == s.toList) = true := beq_bytes (by rw [hp.1, bs_nb])
      have hp2 := hp.2
      have HE := Lib.hid he
      have HP := Lib.hid hp2
      clear he hp hp2
      by_cases hd : printE d = 0
      · have HPP := Lib.hid (parse_print d hd)
        have HD := Lib.hid hd
        clear hd
        go_enter Try.func3, Try.ntmps3
        go_wp2_with fail
        refine (awake_any _).mono ?_
        rintro e w1 ⟨rfl, hb1⟩
        go_wp2_with fail
        refine (Parse_any s _).mono ?_
        rintro e w2 ⟨rfl, hb2⟩
        rw [HE.out]
        go_wp2_with fail
        refine (rParse_any s _).mono ?_
        rintro e w3 ⟨rfl, rfl⟩
        rw [HE.out]
        go_wp2_with fail
        refine (Print_any (parseV (nb s)) _).mono ?_
        rintro e w4 ⟨rfl, hb4⟩
        rw [HP.out]
        go_wp2_with fail
        refine (Print_any d _).mono ?_
        rintro e w5 ⟨rfl, hb5⟩
        rw [HD.out]
        go_wp2_with fail
        refine (Parse_any (bs (printV d)) _).mono ?_
        rintro e w6 ⟨rfl, hb6⟩
        rw [nb_bs _ (printV_byte d), HPP.out.1, HPP.out.2]
        go_wp2_with fail
        go_ret
        have b2 := hb1.trans (hb2.mono hb1.size)
        have b4 := b2.trans (hb4.mono b2.size)
        have b5 := b4.trans (hb5.mono b4.size)
        exact ⟨rfl, b5.trans (hb6.mono b5.size)⟩
      · have hd' : (printE d != 0) = true := bne_iff_ne.2 hd
        clear hd
        go_enter Try.func3, Try.ntmps3
        go_wp2_with fail
        refine (awake_any _).mono ?_
        rintro e w1 ⟨rfl, hb1⟩
        go_wp2_with fail
        refine (Parse_any s _).mono ?_
        rintro e w2 ⟨rfl, hb2⟩
        rw [HE.out]
        go_wp2_with fail
        refine (rParse_any s _).mono ?_
        rintro e w3 ⟨rfl, rfl⟩
        rw [HE.out]
        go_wp2_with fail
        refine (Print_any (parseV (nb s)) _).mono ?_
        rintro e w4 ⟨rfl, hb4⟩
        rw [HP.out]
        go_wp2_with fail
        refine (Print_any d _).mono ?_
        rintro e w5 ⟨rfl, hb5⟩
        go_wp2_with fail
        refine (Parse_any (bs (printV d)) _).mono ?_
        rintro e w6 ⟨rfl, hb6⟩
        go_wp2_with fail
        go_ret
        have b2 := hb1.trans (hb2.mono hb1.size)
        have b4 := b2.trans (hb4.mono b2.size)
        have b5 := b4.trans (hb5.mono b4.size)
        exact ⟨rfl, b5.trans (hb6.mono b5.size)⟩
    · have he' : (parseE (nb s) == 0) = false := beq_eq_false_iff_ne.2 he
      clear he
      by_cases hd : printE d = 0
      · have HPP := Lib.hid (parse_print d hd)
        have HD := Lib.hid hd
        clear hd
        go_enter Try.func3, Try.ntmps3
        go_wp2_with fail
        refine (awake_any _).mono ?_
        rintro e w1 ⟨rfl, hb1⟩
        go_wp2_with fail
        refine (Parse_any s _).mono ?_
        rintro e w2 ⟨rfl, hb2⟩
        go_wp2_with fail
        refine (rParse_any s _).mono ?_
        rintro e w3 ⟨rfl, rfl⟩
        go_wp2_with fail
        refine (Print_any (parseV (nb s)) _).mono ?_
        rintro e w4 ⟨rfl, hb4⟩
        go_wp2_with fail
        refine (Print_any d _).mono ?_
        rintro e w5 ⟨rfl, hb5⟩
        rw [HD.out]
        go_wp2_with fail
        refine (Parse_any (bs (printV d)) _).mono ?_
        rintro e w6 ⟨rfl, hb6⟩
        rw [nb_bs _ (printV_byte d), HPP.out.1, HPP.out.2]
        go_wp2_with fail
        go_ret
        have b2 := hb1.trans (hb2.mono hb1.size)
        have b4 := b2.trans (hb4.mono b2.size)
        have b5 := b4.trans (hb5.mono b4.size)
        exact ⟨rfl, b5.trans (hb6.mono b5.size)⟩
      · have hd' : (printE d != 0) = true := bne_iff_ne.2 hd
        clear hd
        go_enter Try.func3, Try.ntmps3
        go_wp2_with fail
        refine (awake_any _).mono ?_
        rintro e w1 ⟨rfl, hb1⟩
        go_wp2_with fail
        refine (Parse_any s _).mono ?_
        rintro e w2 ⟨rfl, hb2⟩
        go_wp2_with fail
        refine (rParse_any s _).mono ?_
        rintro e w3 ⟨rfl, rfl⟩
        go_wp2_with fail
        refine (Print_any (parseV (nb s)) _).mono ?_
        rintro e w4 ⟨rfl, hb4⟩
        go_wp2_with fail
        refine (Print_any d _).mono ?_
        rintro e w5 ⟨rfl, hb5⟩
        go_wp2_with fail
        refine (Parse_any (bs (printV d)) _).mono ?_
        rintro e w6 ⟨rfl, hb6⟩
        go_wp2_with fail
        go_ret
        have b2 := hb1.trans (hb2.mono hb1.size)
        have b4 := b2.trans (hb4.mono b2.size)
        have b5 := b4.trans (hb5.mono b4.size)
        exact ⟨rfl, b5.trans (hb6.mono b5.size)⟩
set_option maxRecDepth 100000 in
theorem powers_walk (m n : Int) (w : World) : Calls Try.prog 6 #[.int .i64 m, .int .i64 n] w fun e w' => e = .returned (.bool true) ∧ Below w.heap.size w w' := by
  by_cases hr : 0 ≤ m ∧ 0 ≤ n ∧ m ≤ 1099511627776 ∧ n ≤ 1099511627776
  · obtain ⟨h1, h2, h3, h4⟩ := hr
    have q1 : ¬ m < 0 := by omega
    have q2 : ¬ n < 0 := by omega
    have q3 : ¬ 1099511627776 < m := by omega
    have q4 : ¬ 1099511627776 < n := by omega
    have e1 : powE m = 0 := if_neg q1
    have e2 : powE (m + n) = 0 := if_neg (by omega)
    have v1 : powV m = pw m.toNat := if_neg q1
    have v2 : powV (m + n) = pw (m + n).toNat := if_neg (by omega)
    have hin := pw_in m.toNat
    have hj : JoinOk (pw m.toNat) 0 n := ⟨hin, ⟨by decide, by decide⟩, h2⟩
    have e3 : joinE (pw m.toNat) 0 n = 0 := if_pos hj
    have v3 : joinV (pw m.toNat) 0 n = pw (m + n).toNat := by
      unfold joinV
      rw [if_pos hj, Int.add_zero, show (m + n).toNat = m.toNat + n.toNat by omega, pw_add]
    have hpos := pow_pos m.toNat
    have E1 := Lib.hid e1
    have E2 := Lib.hid e2
    have E3 := Lib.hid e3
    have V1 := Lib.hid v1
    have V2 := Lib.hid v2
    have V3 := Lib.hid v3
    clear e1 e2 e3 v1 v2 v3 hj hin
    generalize pw m.toNat = pm at *
    generalize pw (m + n).toNat = pn at *
    go_enter Try.func6, Try.ntmps6
    go_wp2_with fail
    refine (awake_any _).mono ?_
    rintro e w1 ⟨rfl, hb1⟩
    go_wp2_with fail
    refine (Power_any m _ (by omega)).mono ?_
    rintro e w2 ⟨rfl, hb2⟩
    rw [E1.out, V1.out]
    go_wp2_with fail
    refine (Power_any (m + n) _ (by omega)).mono ?_
    rintro e w3 ⟨rfl, hb3⟩
    rw [E2.out, V2.out]
    go_wp2_with fail
    refine (Join_any pm 0 n _ (by omega)).mono ?_
    rintro e w4 ⟨rfl, hb4⟩
    rw [E3.out, V3.out]
    go_wp2_with fail
    go_ret
    have b2 := hb1.trans (hb2.mono hb1.size)
    have b3 := b2.trans (hb3.mono b2.size)
    exact ⟨rfl, b3.trans (hb4.mono b3.size)⟩
  · have hr' : m < 0 ∨ (0 ≤ m ∧ n < 0) ∨ (0 ≤ m ∧ 0 ≤ n ∧ 1099511627776 < m) ∨ (0 ≤ m ∧ 0 ≤ n ∧ m ≤ 1099511627776 ∧ 1099511627776 < n) := by omega
    clear hr
    rcases hr' with h1 | ⟨h1, h2⟩ | ⟨h1, h2, h3⟩ | ⟨h1, h2, h3, h4⟩
    · go_enter Try.func6, Try.ntmps6
      go_wp2_with fail
      refine (awake_any _).mono ?_
      rintro e w1 ⟨rfl, hb1⟩
      go_wp2_with fail
      go_ret
      exact ⟨rfl, hb1⟩
    · have q1 : ¬ m < 0 := by omega
      go_enter Try.func6, Try.ntmps6
      go_wp2_with fail
      refine (awake_any _).mono ?_
      rintro e w1 ⟨rfl, hb1⟩
      go_wp2_with fail
      go_ret
      exact ⟨rfl, hb1⟩
    · have q1 : ¬ m < 0 := by omega
      have q2 : ¬ n < 0 := by omega
      go_enter Try.func6, Try.ntmps6
      go_wp2_with fail
      refine (awake_any _).mono ?_
      rintro e w1 ⟨rfl, hb1⟩
      go_wp2_with fail
      go_ret
      exact ⟨rfl, hb1⟩
    · have q1 : ¬ m < 0 := by omega
      have q2 : ¬ n < 0 := by omega
      have q3 : ¬ 1099511627776 < m := by omega
      go_enter Try.func6, Try.ntmps6
      go_wp2_with fail
      refine (awake_any _).mono ?_
      rintro e w1 ⟨rfl, hb1⟩
      go_wp2_with fail
      go_ret
      exact ⟨rfl, hb1⟩
end Go.Proofs.Ytdjolpclkbfeoaa
