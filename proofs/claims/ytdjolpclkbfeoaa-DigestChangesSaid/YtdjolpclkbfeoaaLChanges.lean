/- The walk of DigestChanges. -/
import Derived.Test.YtdjolpclkbfeoaaLSeals
import Derived.Deep.RegionHeld3
namespace Go.Proofs.Ytdjolpclkbfeoaa
set_option linter.unusedVariables false
open Go.RowKit
theorem bcell {W w' : World} {p : Addr} {v : Value} (hb : Below W.heap.size W w') (h : W.cell? p = some v) : w'.cell? p = some v := by rw [hb.cell (cell_lt h)]; exact h
set_option maxRecDepth 100000 in
theorem changes_out (a : Option Addr) (len cap : Nat) (i x : Int) (w : World) (hm : len ≤ 9223372036854775807) (h : 100 < len ∨ len = 0) :
    Calls Try.prog 4 #[.slice a len cap, .int .u8 i, .int .u8 x] w fun e w' => e = .returned (.bool true) ∧ Below w.heap.size w w' := by
  rcases h with h | h
  · have hl : (100 : Int) < (len : Int) := by omega
    go_enter Try.func4, Try.ntmps4
    go_wp2_with fail
    refine (awake_any _).mono ?_
    rintro e w1 ⟨rfl, hb1⟩
    go_wp2_with fail
    go_ret
    exact ⟨rfl, hb1⟩
  · subst h
    go_enter Try.func4, Try.ntmps4
    go_wp2_with fail
    refine (awake_any _).mono ?_
    rintro e w1 ⟨rfl, hb1⟩
    go_wp2_with fail
    go_ret
    exact ⟨rfl, hb1⟩
set_option maxRecDepth 100000 in
theorem changes_in (b off len cap : Nat) (l : List Int) (i x : Int) (w : World) (hr : Rd w (some ⟨b, off, none⟩) len l) (hcap : len ≤ cap) (h1 : 0 < len) (h2 : len ≤ 100) (hi : 0 ≤ i ∧ i ≤ 255) (hx : 0 ≤ x ∧ x ≤ 255) :
    Calls Try.prog 4 #[.slice (some ⟨b, off, none⟩) len cap, .int .u8 i, .int .u8 x] w fun e w' => e = .returned (.bool true) ∧ Below w.heap.size w w' := by
  have HR := Lib.hid hr
  have hbl := hr.lt h1
  clear hr
  obtain ⟨hi1, hi2⟩ := hi
  obtain ⟨I, rfl⟩ : ∃ I : Nat, i = I := ⟨i.toNat, by omega⟩
  obtain ⟨hx1, hx2⟩ := hx
  have hl : ¬ (100 : Int) < (len : Int) := by omega
  have hl0 : ((len : Int) == 0) = false := by rw [beq_eq_false_iff_ne]; omega
  have HX := Lib.hid HR.out.2.1
  have HL := Lib.hid HR.out.1
  have hk : I % len < len := Nat.mod_lt _ h1
  have hkI : (I : Int) % (len : Int) < (len : Int) := Int.emod_lt_of_pos _ (by omega)
  have hkI0 : 0 ≤ (I : Int) % (len : Int) := Int.emod_nonneg _ (by omega)
  have hby := HR.out.byte (I % len)
  obtain ⟨hy1, hy2⟩ := hby
  have hxr := xr_bits (l.getD (I % len) 0) x hy1 hy2 hx1 hx2
  have hxb := Lib.hid (xr_byte (l.getD (I % len) 0) x hy2 hx2)
  have HD : Hid (dg 0 (l.set (I % len) (xr (l.getD (I % len) 0) x)) = dg 0 l ↔ x = 0) := Lib.hid (by
    constructor
    · intro g
      rcases Int.lt_trichotomy x 0 with q | q | q
      · omega
      · exact q
      · exact absurd g (dg_set l (I % len) _ (by rw [HL.out]; exact hk) HX.out hxb.out (xr_ne _ _ hy1 hx1 (by omega)))
    · intro g
      rw [g, xr_zero _ hy1, set_self])
  go_enter Try.func4, Try.ntmps4
  go_wp2_with fail
  refine (awake_any _).mono ?_
  rintro e w1 ⟨rfl, b1⟩
  have HA := Lib.hid (HR.out.below b1)
  have hN := Own.empty w1
  have eB : Below w1.heap.size w1 (w1.alloc (.cells #[] 5)) := (Below.refl _ _).alloc (Nat.le_refl _) _
  have HA1 := Lib.hid (HA.out.below eB)
  have EB := Lib.hid eB
  have B1 := Lib.hid b1
  clear eB b1
  go_wp2_with (at_builtin; refine app_rd rfl _ _ rfl w1.heap.size _ [] rfl hN (some ⟨b, off, none⟩) len cap l rfl HA1.out (fun h => by cases h) ?_ ?_ ?_)
  · simp; have := HL.out; omega
  · exact EB.out.size
  intro v2 w2 hown2 hb2
  have B2 := Lib.hid (B1.out.trans ((EB.out.trans hb2).mono B1.out.size))
  obtain ⟨g, c2, rfl, hg, hgl, hc2⟩ := hown2.addr HL.out h1
  have hcell := hown2.cell HL.out (I % len) hk
  have hfr := hown2.frozen HL.out (I % len)
  have HO := Lib.hid (hown2.stored HL.out (I % len) (xr (l.getD (I % len) 0) x))
  have HRD : Hid (∀ w', Own w' w1.heap.size (.slice (some ⟨g, 0, none⟩) len c2) (l.set (I % len) (xr (l.getD (I % len) 0) x)) → Rd w' (some ⟨g, 0, none⟩) len (l.set (I % len) (xr (l.getD (I % len) 0) x))) := Lib.hid (fun w' h => by
    obtain ⟨a5, c5, hv5, r5, _⟩ := h.rdn (n := len) (fun z hz => by
      rcases List.mem_or_eq_of_mem_set hz with q | q
      · exact HX.out z q
      · rw [q]; exact hxb.out) (by rw [List.length_set]; exact HL.out)
    rw [Value.slice.injEq] at hv5
    obtain ⟨rfl, -, rfl⟩ := hv5
    exact r5)
  clear hown2 hN hb2
  have b1s := B1.out.size
  generalize hyy : l.getD (I % len) 0 = y at *
  have HY := Lib.hid hyy
  clear hyy
  go_wp2_with fail
  have B3 : Hid (Below w.heap.size w (w2.setCell ⟨g, I % len, none⟩ (.int .u8 (xr y x)))) := Lib.hid (B2.out.setCell (Nat.le_trans b1s hg) _)
  refine (of_any (some ⟨g, 0, none⟩) len c2 _ _ (HRD.out _ HO.out) (by unfold maxLen; omega)).mono ?_
  rintro e w4 ⟨rfl, hb4⟩
  have B4 := Lib.hid (B3.out.trans (hb4.mono B3.out.size))
  clear hb4
  go_wp2_with fail
  refine (of_any (some ⟨b, off, none⟩) len cap l _ (HR.out.below B4.out) (by unfold maxLen; omega)).mono ?_
  rintro e w5 ⟨rfl, hb5⟩
  have B5 := Lib.hid (B4.out.trans (hb5.mono B4.out.size))
  clear hb5
  have ht : (dg 0 (l.set (I % len) (xr y x)) == dg 0 l) = (x == 0) := by
    by_cases q : x = 0
    · rw [HD.out.2 q, q]; simp
    · rw [beq_eq_false_iff_ne.2 q, beq_eq_false_iff_ne]; exact fun g => q (HD.out.1 g)
  clear hcell hfr hxr
  by_cases hlast : I % len + 1 = len
  · have he : ((I : Int) % (len : Int) + 1 == (len : Int)) = true := by rw [beq_iff_eq]; omega
    clear hlast
    go_wp2_with fail
    go_ret
    exact ⟨rfl, B5.out⟩
  · have he : ((I : Int) % (len : Int) + 1 == (len : Int)) = false := by rw [beq_eq_false_iff_ne]; omega
    have hk1 : I % len + 1 < len := by omega
    clear hlast
    have HA5 := Lib.hid (HR.out.below B5.out)
    have hN := Own.empty w5
    have eB : Below w5.heap.size w5 (w5.alloc (.cells #[] 5)) := (Below.refl _ _).alloc (Nat.le_refl _) _
    have HA6 := Lib.hid (HA5.out.below eB)
    have EB5 := Lib.hid eB
    clear eB
    go_wp2_with (at_builtin; refine app_rd rfl _ _ rfl w5.heap.size _ [] rfl hN (some ⟨b, off, none⟩) len cap l rfl HA6.out (fun h => by cases h) ?_ ?_ ?_)
    · simp; have := HL.out; omega
    · exact EB5.out.size
    intro v6 w6 hown6 hb6
    have B6 := Lib.hid (B5.out.trans ((EB5.out.trans hb6).mono B5.out.size))
    obtain ⟨g6, c6, rfl, hg6, hgl6, hc6⟩ := hown6.addr HL.out h1
    have hbg : b ≠ g6 := by have := B5.out.size; omega
    have hgb : g6 ≠ b := fun h => hbg h.symm
    have HA7 := HR.out.below B6.out
    obtain ⟨b', off', e, q1⟩ := HA7.2.2 (I % len) hk
    cases e
    obtain ⟨b', off', e, q2⟩ := HA7.2.2 (I % len + 1) hk1
    cases e
    have hc1 := hown6.cell HL.out (I % len) hk
    have hc2' := hown6.cell HL.out (I % len + 1) hk1
    have hf1 := hown6.frozen HL.out (I % len)
    have hf2 := hown6.frozen HL.out (I % len + 1)
    have HS1 := (hown6.stored HL.out (I % len) (l.getD (I % len + 1) 0))
    have HS2 := Lib.hid (HS1.stored (by rw [List.length_set]; exact HL.out) (I % len + 1) (l.getD (I % len) 0))
    have B7 := Lib.hid ((B6.out.setCell (p := ⟨g6, I % len, none⟩) (by have := B5.out.size; show _ ≤ g6; omega) (.int .u8 (l.getD (I % len + 1) 0))).setCell (p := ⟨g6, I % len + 1, none⟩) (by have := B5.out.size; show _ ≤ g6; omega) (.int .u8 (l.getD (I % len) 0)))
    have HSW := Lib.hid (dg_swap l (I % len) (by rw [HL.out]; exact hk1) HX.out)
    clear HS1 hown6 hN hb6 HA7
    generalize hz : l.getD (I % len + 1) 0 = z at *
    have HZ := Lib.hid hz
    rw [HY.out] at q1 hc1 HS2 B7 HSW
    clear hz
    go_wp2_with fail
    go_region
    all_goals go_wp2_with fail
    have O8 := HS2.out.drew
    have B8 := B7.out.drew
    have r8 : Rd ((w6.setCell ⟨g6, I % len, none⟩ (.int .u8 z)).setCell ⟨g6, I % len + 1, none⟩ (.int .u8 y)).drew (some ⟨g6, 0, none⟩) len ((l.set (I % len) z).set (I % len + 1) y) := by
      have hzb := HR.out.byte (I % len + 1)
      rw [HZ.out] at hzb
      obtain ⟨a5, c5, hv5, r5, _⟩ := O8.rdn (n := len) (fun v hv => by
        rcases List.mem_or_eq_of_mem_set hv with q | q
        · rcases List.mem_or_eq_of_mem_set q with q | q
          · exact HX.out v q
          · rw [q]; exact hzb
        · rw [q]; exact ⟨hy1, hy2⟩) (by rw [List.length_set, List.length_set]; exact HL.out)
      rw [Value.slice.injEq] at hv5
      obtain ⟨rfl, -, rfl⟩ := hv5
      exact r5
    generalize ((w6.setCell ⟨g6, I % len, none⟩ (.int .u8 z)).setCell ⟨g6, I % len + 1, none⟩ (.int .u8 y)).drew = w8 at *
    have rb8 := HR.out.below B8
    obtain ⟨b', off', e, p1⟩ := rb8.2.2 (I % len) hk
    cases e
    obtain ⟨b', off', e, p2⟩ := rb8.2.2 (I % len + 1) hk1
    cases e
    rw [HY.out] at p1
    rw [HZ.out] at p2
    have HCg : Hid (∀ wx, Below w8.heap.size w8 wx → Calls Try.prog 14 #[.slice (some ⟨g6, 0, none⟩) len c6] wx fun e w' => e = .returned (.int .i64 (dg 0 ((l.set (I % len) z).set (I % len + 1) y))) ∧ Below w8.heap.size w8 w') :=
      Lib.hid (fun wx hx => (of_any (some ⟨g6, 0, none⟩) len c6 _ wx (r8.below hx) (by unfold maxLen; omega)).mono fun e w' ⟨he, hb⟩ => ⟨he, hx.trans (hb.mono hx.size)⟩)
    have HCb : Hid (∀ wx, Below w8.heap.size w8 wx → Calls Try.prog 14 #[.slice (some ⟨b, off, none⟩) len cap] wx fun e w' => e = .returned (.int .i64 (dg 0 l)) ∧ Below w8.heap.size w8 w') :=
      Lib.hid (fun wx hx => (of_any (some ⟨b, off, none⟩) len cap _ wx (rb8.below hx) (by unfold maxLen; omega)).mono fun e w' ⟨he, hb⟩ => ⟨he, hx.trans (hb.mono hx.size)⟩)
    have P1 := Lib.hid p1
    have P2 := Lib.hid p2
    have hb0 : Below w8.heap.size w8 w8.drew := (Below.refl _ _).drew
    have BW := Lib.hid B8
    have hsw := HSW.out
    clear O8 B8 r8 rb8 q1 q2 hc1 hc2' hf1 hf2
    have n1 : (I : Int) % (len : Int) + 1 < (len : Int) := by
      have : ((I % len : Nat) : Int) = (I : Int) % (len : Int) := Int.natCast_emod ..
      omega
    have n0 : (0 : Int) ≤ (I : Int) % (len : Int) + 1 := by omega
    have nw : IntKind.i64.wrap ((I : Int) % (len : Int) + 1) = (I : Int) % (len : Int) + 1 := IntWalk.i64_in _ (by omega)
    have t0 : ((I : Int) % (len : Int)).toNat = I % len := by
      have : ((I % len : Nat) : Int) = (I : Int) % (len : Int) := Int.natCast_emod ..
      omega
    have t1 : ((I : Int) % (len : Int) + 1).toNat = I % len + 1 := by omega
    go_region_held3 (fun w' => w'.cell? ⟨b, off + I % len, none⟩ = some (.int .u8 y) ∧ w'.cell? ⟨b, off + (I % len + 1), none⟩ = some (.int .u8 z) ∧ Below w8.heap.size w8 w') (first | exact ⟨bcell (by assumption) P1.out, bcell (by assumption) P2.out, by assumption⟩ | go_keep)
      (first | (go_at_call 14; with_reducible refine (HCg.out _ ?_).mono ?_; assumption; rintro e wN ⟨rfl, hbN⟩) | (go_at_call 14; with_reducible refine (HCb.out _ ?_).mono ?_; assumption; rintro e wN ⟨rfl, hbN⟩))
    all_goals go_wp2_with fail
    all_goals go_ret
    all_goals exact ⟨rfl, BW.out.trans (Below.mono (B := w8.heap.size) (by assumption) BW.out.size)⟩
theorem changes_walk (a : Option Addr) (len cap : Nat) (l : List Int) (i x : Int) (w : World) (hr : Rd w a len l) (hcap : len ≤ cap) (hmax : len ≤ maxLen) (hi : 0 ≤ i ∧ i ≤ 255) (hx : 0 ≤ x ∧ x ≤ 255) :
    Calls Try.prog 4 #[.slice a len cap, .int .u8 i, .int .u8 x] w fun e w' => e = .returned (.bool true) ∧ Below w.heap.size w w' := by
  have hm : len ≤ 9223372036854775807 := by unfold maxLen at hmax; omega
  by_cases h : 100 < len ∨ len = 0
  · exact changes_out a len cap i x w hm h
  · obtain ⟨b, off, rfl⟩ := hr.form (by omega)
    exact changes_in b off len cap l i x w hr hcap (by omega) (by omega) hi hx
end Go.Proofs.Ytdjolpclkbfeoaa
