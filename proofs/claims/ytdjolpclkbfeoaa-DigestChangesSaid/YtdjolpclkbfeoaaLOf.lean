/- The walk of DigestOf. -/
import Derived.Test.YtdjolpclkbfeoaaWC
namespace Go.Proofs.Ytdjolpclkbfeoaa
set_option linter.unusedVariables false
open Go.RowKit
theorem openV_byte (l : List Int) (h : ∀ x ∈ l, 0 ≤ x ∧ x ≤ 255) : ∀ x ∈ openV l, 0 ≤ x ∧ x ≤ 255 := by
  unfold openV
  split
  · exact fun x hx => h x (List.mem_of_mem_take hx)
  · simp
theorem openV_length (l : List Int) : (openV l).length ≤ l.length := by
  unfold openV
  split
  · rw [List.length_take]; omega
  · simp
theorem sealed_byte (l : List Int) (h : ∀ x ∈ l, 0 ≤ x ∧ x ≤ 255) : ∀ x ∈ l ++ tl (dg 0 l), 0 ≤ x ∧ x ≤ 255 := fun x hx => by
  rcases List.mem_append.1 hx with g | g
  · exact h x g
  · exact tl_byte _ x g
theorem Own.rdn {w : World} {base : Nat} {v : Value} {xs : List Int} {n : Nat} (h : Own w base v xs) (hb : ∀ x ∈ xs, 0 ≤ x ∧ x ≤ 255) (hn : xs.length = n) : ∃ a c, v = .slice a n c ∧ Rd w a n xs ∧ (a = none → c = 0) ∧ (∀ x, a = some x → base ≤ x.block) := by
  subst hn
  exact h.rd0 hb
set_option maxRecDepth 100000 in
theorem of_walk (a : Option Addr) (len cap : Nat) (l : List Int) (d : Int) (w : World) (hr : Rd w a len l) (hn : a = none → cap = 0) (hcap : len ≤ cap) (hmax : len ≤ maxLen) :
    Calls Try.prog 9 #[.slice a len cap, .int .i64 d] w fun e w' => e = .returned (.bool true) ∧ Below w.heap.size w w' := by
  have HR := Lib.hid hr
  have HN := Lib.hid hn
  clear hr hn
  have hm : len ≤ 9223372036854775807 := by unfold maxLen at hmax; omega
  by_cases hlen : 200 < len
  · have hl : (200 : Int) < (len : Int) := by omega
    go_enter Try.func9, Try.ntmps9
    go_wp2_with fail
    refine (awake_any _).mono ?_
    rintro e w1 ⟨rfl, hb1⟩
    go_wp2_with fail
    go_ret
    exact ⟨rfl, hb1⟩
  · have hl : ¬ (200 : Int) < (len : Int) := by omega
    have hz : len ≤ 200 := by omega
    have hmx : len ≤ maxLen := hmax
    clear hlen hmax
    have HMX := Lib.hid hmx
    clear hmx
    have HX := Lib.hid HR.out.2.1
    have HOX := Lib.hid (openV_byte l HX.out)
    have HSX := Lib.hid (sealed_byte l HX.out)
    have HSL : Hid ((l ++ tl (dg 0 l)).length = len + 8) := Lib.hid (by rw [List.length_append, HR.out.1]; rfl)
    go_enter Try.func9, Try.ntmps9
    go_wp2_with fail
    refine (awake_any _).mono ?_
    rintro e w1 ⟨rfl, b1⟩
    go_wp2_with fail
    refine (More_any d a len cap l _ (HR.out.below b1) HMX.out).mono ?_
    rintro e w2 ⟨rfl, hb2⟩
    have b2 := b1.trans (hb2.mono b1.size)
    go_wp2_with fail
    refine (rMore_any d a len cap l _ (HR.out.below b2) HMX.out).mono ?_
    rintro e w3 ⟨rfl, hb3⟩
    have b3 := b2.trans (hb3.mono b2.size)
    clear hb2 hb3 b1
    go_wp2_with fail
    refine (Open_any a len cap l _ (HR.out.below b3) (by omega) hcap).mono ?_
    rintro e w4 ⟨v4, rfl, hown4, hb4⟩
    have b4 := b3.trans (hb4.mono b3.size)
    clear b2
    go_wp2_with fail
    refine (rOpen_any a len cap l _ (HR.out.below b4) (by omega) hcap).mono ?_
    rintro e w5 ⟨v5, rfl, hown5, hb5⟩
    have b5 := b4.trans (hb5.mono b4.size)
    have O4 := Lib.hid ((hown4.stays hb5))
    have O5 := Lib.hid hown5
    clear hown4 hown5 hb4 hb5 b3
    go_wp2_with fail
    refine (of_any a len cap l _ (HR.out.below b5) HMX.out).mono ?_
    rintro e w6 ⟨rfl, hb6⟩
    have b6 := b5.trans (hb6.mono b5.size)
    have O4 := Lib.hid (O4.out.stays hb6)
    have O5 := Lib.hid (O5.out.stays hb6)
    clear b4
    go_wp2_with fail
    refine (rOf_any a len cap l _ (HR.out.below b6) HMX.out).mono ?_
    rintro e w7 ⟨rfl, hb7⟩
    have b7 := b6.trans (hb7.mono b6.size)
    have O4 := Lib.hid (O4.out.stays hb7)
    have O5 := Lib.hid (O5.out.stays hb7)
    clear hb6 hb7 b5 b6
    go_wp2_with fail
    refine (seal_any a len cap l _ (HR.out.below b7) HN.out (by omega)).mono ?_
    rintro e w8 ⟨v8, rfl, hown8, hb8⟩
    have b8 := b7.trans (hb8.mono b7.size)
    have O4 := Lib.hid (O4.out.stays hb8)
    have O5 := Lib.hid (O5.out.stays hb8)
    have O8 := Lib.hid hown8
    clear hown8 hb8 b7
    go_wp2_with fail
    refine (rSeal_any a len cap l _ (HR.out.below b8) HN.out (by omega)).mono ?_
    rintro e w9 ⟨v9, rfl, hown9, hb9⟩
    have b9 := b8.trans (hb9.mono b8.size)
    have O4 := Lib.hid (O4.out.stays hb9)
    have O5 := Lib.hid (O5.out.stays hb9)
    have O8 := Lib.hid (O8.out.stays hb9)
    obtain ⟨a8, c8, rfl, r8, _⟩ := O8.out.rdn HSX.out HSL.out
    obtain ⟨a9, c9, rfl, r9, _⟩ := hown9.rdn HSX.out HSL.out
    have R8 := Lib.hid r8
    have R9 := Lib.hid r9
    clear hown9 hb9 b8 r8 r9
    go_wp2_with fail
    refine (same_any a8 _ c8 _ a9 _ c9 _ _ R8.out R9.out).mono ?_
    rintro e w10 ⟨rfl, rfl⟩
    rw [beq_self_eq_true]
    obtain ⟨a4, c4, rfl, r4, _⟩ := O4.out.rd0 HOX.out
    obtain ⟨a5, c5, rfl, r5, _⟩ := O5.out.rd0 HOX.out
    have R4 := Lib.hid r4
    have R5 := Lib.hid r5
    clear r4 r5
    go_wp2_with fail
    refine (same_any a4 _ c4 _ a5 _ c5 _ _ R4.out R5.out).mono ?_
    rintro e w11 ⟨rfl, rfl⟩
    rw [beq_self_eq_true]
    go_wp2_with fail
    go_ret
    exact ⟨rfl, b9⟩
end Go.Proofs.Ytdjolpclkbfeoaa
