/- The contracts of Parse, of the program and of the reference. -/
import Derived.Test.YtdjolpclkbfeoaaW7
namespace Go.Proofs.Ytdjolpclkbfeoaa
set_option linter.unusedVariables false
open Go.RowKit
set_option maxRecDepth 100000 in
theorem parse_16 (s : ByteArray) (w : World) (h : s.size = 16) :
    Calls Try.prog 11 #[.string s] w fun e w' => e = .returned (.tuple #[.int .i64 (parseV (nb s)), .int .i64 (parseE (nb s))]) ∧ Below w.heap.size w w' := by
  have hs : ((s.size : Int) != 16) = false := by rw [h]; rfl
  obtain ⟨c0, w0, hcv, hr, hB0⟩ := conv_str s w
  have HR := Lib.hid hr
  have hz : s.size ≤ 16 := by omega
  have hz' : 16 ≤ s.size := by omega
  have H := Lib.hid h
  clear h hr
  go_enter Try.func11, Try.ntmps11
  go_wp2_with fail
  go_loopw [4, 13] (fun n i wr => ∃ k : Nat, k ≤ 16 ∧ i = .int .i64 k ∧ n = .int .u64 (num 0 ((nb s).take k)) ∧ Hid (∀ x ∈ (nb s).take k, 0 ≤ hv x) ∧ w0 = wr) (fun _ i _ => (16 - intOf i).toNat)
  case atStart => exact ⟨0, Nat.zero_le _, rfl, rfl, fun x hx => by simp at hx, rfl⟩
  case round =>
    obtain ⟨k, hk, rfl, rfl, HV, rfl⟩ := hrel
    by_cases hlt : k < 16
    · obtain ⟨b', off', e, hc⟩ := HR.out.2.2 k (by omega)
      cases e
      rw [Nat.zero_add] at hc
      have hby := HR.out.byte k
      obtain ⟨hb1, hb2⟩ := hby
      have hkl : k < (nb s).length := by rw [nb_length]; omega
      have hks : k < s.size := by omega
      have hsm := num_small (nb s) k (by rw [nb_length]; exact H.out) hlt HV.out
      obtain ⟨hn1, hn2⟩ := hsm
      have HN : Hid _ := Lib.hid (num_take (nb s) k hkl)
      have HT := take_valid (nb s) k hkl HV.out
      have HT := Lib.hid HT
      have HX := not_parseOk (nb s) k hkl
      have HX := Lib.hid HX
      generalize (nb s).getD k 0 = v at *
      generalize num 0 ((nb s).take k) = u at *
      rcases hv_cases v with ⟨a, b, hh⟩ | ⟨a, b, hh⟩ | ⟨h2, hh⟩
      · have hor := or_low u (v - 48) hn1 hn2 (by omega) (by omega)
        have HH := Lib.hid hh
        clear hh
        go_wp2_with fail
        go_roundw
        case rel => exact ⟨k + 1, by omega, by go_num, by rw [HN.out, HH.out], HT.out (by rw [HH.out]; omega), trivial⟩
        case measure => simp [intOf]; omega
      · have hor := or_low u (v - 97 + 10) hn1 hn2 (by omega) (by omega)
        have HH := Lib.hid hh
        clear hh
        have q : ¬ v ≤ 57 := by omega
        go_wp2_with fail
        go_roundw
        case rel => exact ⟨k + 1, by omega, by go_num, by rw [HN.out, HH.out, show v - 87 = v - 97 + 10 by omega], HT.out (by rw [HH.out]; omega), trivial⟩
        case measure => simp [intOf]; omega
      · have hp := parse_bad _ (HX.out (by rw [hh]; decide))
        have HP := Lib.hid hp
        clear hp hh
        rcases h2 with h2 | ⟨h2, h3⟩ | h2
        all_goals
          go_wp2_with fail
          go_ret2
          exact ⟨by rw [HP.out.1, HP.out.2]; rfl, hB0⟩
    · obtain rfl : k = 16 := by omega
      have hall : (nb s).take 16 = nb s := List.take_of_length_le (by rw [nb_length]; omega)
      rw [hall] at HV
      have hall := Lib.hid hall
      have hok : ParseOk (nb s) := ⟨by rw [nb_length]; exact H.out, HV.out⟩
      have hnb := num_bound (nb s) 0 (by decide) HV.out
      rw [hok.1] at hnb
      obtain ⟨hn1, hn2⟩ := hnb
      by_cases hg : num 0 (nb s) < 2305843009213693951
      · have HP := Lib.hid (parse_good _ hok hg)
        clear hok
        rw [hall.out]
        clear hall
        generalize num 0 (nb s) = u at *
        go_wp2_with fail
        go_ret2
        exact ⟨by rw [HP.out.1, HP.out.2]; rfl, hB0⟩
      · have HP := Lib.hid (parse_great _ hok hg)
        clear hok
        rw [hall.out]
        clear hall
        generalize num 0 (nb s) = u at *
        go_wp2_with fail
        go_ret2
        exact ⟨by rw [HP.out.1, HP.out.2]; rfl, hB0⟩
set_option maxRecDepth 100000 in
theorem Parse_any (s : ByteArray) (w : World) :
    Calls Try.prog 11 #[.string s] w fun e w' => e = .returned (.tuple #[.int .i64 (parseV (nb s)), .int .i64 (parseE (nb s))]) ∧ Below w.heap.size w w' := by
  by_cases h : s.size = 16
  · exact parse_16 s w h
  · have hp := parse_bad (nb s) (fun g => h (by rw [← nb_length]; exact g.1))
    rw [hp.1, hp.2]
    have hs : ((s.size : Int) != 16) = true := by rw [bne_iff_ne]; omega
    clear hp
    go_enter Try.func11, Try.ntmps11
    go_wp2_with fail
    go_ret2
    exact ⟨rfl, Below.refl _ _⟩
set_option maxRecDepth 100000 in
theorem rParse_16 (s : ByteArray) (w : World) (h : s.size = 16) :
    Calls Try.prog 12 #[.string s] w fun e w' => e = .returned (.tuple #[.int .i64 (parseV (nb s)), .int .i64 (parseE (nb s))]) ∧ w = w' := by
  have hs : ((s.size : Int) != 16) = false := by rw [h]; rfl
  have hz : s.size ≤ 16 := by omega
  have hz' : 16 ≤ s.size := by omega
  have hget := get_at s
  have H := Lib.hid h
  clear h
  go_enter Try.func12, Try.ntmps12
  go_wp2_with fail
  go_loop [4] (fun i => ∃ k : Nat, k ≤ 16 ∧ i = .int .i64 k ∧ Hid (∀ x ∈ (nb s).take k, 0 ≤ hv x)) (fun i => (16 - intOf i).toNat)
  case atStart => exact ⟨0, Nat.zero_le _, rfl, fun x hx => by simp at hx⟩
  case round =>
    obtain ⟨k, hk, rfl, HV⟩ := hrel
    by_cases hlt : k < 16
    · have hkl : k < (nb s).length := by rw [nb_length]; omega
      have hks : k < s.size := by omega
      have hby := at_byte s k
      have HT := take_valid (nb s) k hkl HV.out
      have HT := Lib.hid HT
      have HX := not_parseOk (nb s) k hkl
      have HX := Lib.hid HX
      have hat : at_ s k = (nb s).getD k 0 := rfl
      rw [← hat] at HT HX
      clear hat
      by_cases hneg : hv (at_ s k) < 0
      · have HP := Lib.hid (parse_bad _ (HX.out hneg))
        go_wp2_with fail
        refine (digit_any (at_ s k) _ hby.1 hby.2).mono ?_
        rintro e w1 ⟨rfl, rfl⟩
        go_wp2_with fail
        go_ret2
        exact ⟨by rw [HP.out.1, HP.out.2]; rfl, rfl⟩
      · go_wp2_with fail
        refine (digit_any (at_ s k) _ hby.1 hby.2).mono ?_
        rintro e w1 ⟨rfl, rfl⟩
        go_wp2_with fail
        go_round
        case rel => exact ⟨k + 1, by omega, by go_num, HT.out (by omega)⟩
        case measure => simp [intOf]; omega
    · obtain rfl : k = 16 := by omega
      have hall : (nb s).take 16 = nb s := List.take_of_length_le (by rw [nb_length]; omega)
      rw [hall] at HV
      have HA := Lib.hid hall
      clear hall
      go_wp2_with fail
      go_loop [5, 6] (fun n i => ∃ k : Nat, k ≤ 16 ∧ i = .int .i64 k ∧ n = .int .u64 (num 0 ((nb s).take k))) (fun _ i => (16 - intOf i).toNat)
      case atStart => exact ⟨0, Nat.zero_le _, rfl, rfl⟩
      case round =>
        obtain ⟨k, hk, rfl, rfl⟩ := hrel
        by_cases hlt : k < 16
        · have hkl : k < (nb s).length := by rw [nb_length]; omega
          have hks : k < s.size := by omega
          have hby := at_byte s k
          have hsm := num_small (nb s) k (by rw [nb_length]; exact H.out) hlt (fun x hx => HV.out x (List.mem_of_mem_take hx))
          obtain ⟨hn1, hn2⟩ := hsm
          have HN : Hid _ := Lib.hid (num_take (nb s) k hkl)
          have hv0 : 0 ≤ hv (at_ s k) := by
            have := HV.out _ (List.getElem_mem hkl)
            rwa [show (nb s)[k] = at_ s k by unfold at_; rw [List.getD_eq_getElem?_getD, List.getElem?_eq_getElem hkl]; rfl] at this
          have hv1 := hv_lt (at_ s k)
          rw [show (nb s).getD k 0 = at_ s k from rfl] at HN
          generalize num 0 ((nb s).take k) = u at *
          go_wp2_with fail
          refine (digit_any (at_ s k) _ hby.1 hby.2).mono ?_
          rintro e w1 ⟨rfl, rfl⟩
          generalize hv (at_ s k) = v at *
          go_wp2_with fail
          go_round
          case rel => exact ⟨k + 1, by omega, by go_num, by rw [HN.out, Int.mul_comm u 16]⟩
          case measure => simp [intOf]; omega
        · obtain rfl : k = 16 := by omega
          have hok : ParseOk (nb s) := ⟨by rw [nb_length]; exact H.out, HV.out⟩
          have hnb := num_bound (nb s) 0 (by decide) HV.out
          rw [hok.1] at hnb
          obtain ⟨hn1, hn2⟩ := hnb
          rw [HA.out]
          by_cases hg : num 0 (nb s) < 2305843009213693951
          · have HP := Lib.hid (parse_good _ hok hg)
            clear hok
            generalize num 0 (nb s) = u at *
            go_wp2_with fail
            go_ret2
            exact ⟨by rw [HP.out.1, HP.out.2]; rfl, rfl⟩
          · have HP := Lib.hid (parse_great _ hok hg)
            clear hok
            generalize num 0 (nb s) = u at *
            go_wp2_with fail
            go_ret2
            exact ⟨by rw [HP.out.1, HP.out.2]; rfl, rfl⟩
set_option maxRecDepth 100000 in
theorem rParse_any (s : ByteArray) (w : World) :
    Calls Try.prog 12 #[.string s] w fun e w' => e = .returned (.tuple #[.int .i64 (parseV (nb s)), .int .i64 (parseE (nb s))]) ∧ w = w' := by
  by_cases h : s.size = 16
  · exact rParse_16 s w h
  · have hp := parse_bad (nb s) (fun g => h (by rw [← nb_length]; exact g.1))
    rw [hp.1, hp.2]
    have hs : ((s.size : Int) != 16) = true := by rw [bne_iff_ne]; omega
    clear hp
    go_enter Try.func12, Try.ntmps12
    go_wp2_with fail
    go_ret2
    exact ⟨rfl, rfl⟩
end Go.Proofs.Ytdjolpclkbfeoaa
