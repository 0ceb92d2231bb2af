/- The walk of DigestSeals. -/
import Derived.Test.YtdjolpclkbfeoaaLOf
import Derived.Test.YtdjolpclkbfeoaaChg
namespace Go.Proofs.Ytdjolpclkbfeoaa
set_option linter.unusedVariables false
open Go.RowKit
/-- A slice of the call's own, in which one byte is stored. -/
theorem Own.stored {w : World} {base g n cap : Nat} {xs : List Int} (h : Own w base (.slice (some ⟨g, 0, none⟩) n cap) xs) (hn : xs.length = n) (k : Nat) (x : Int) : Own (w.setCell ⟨g, k, none⟩ (.int .u8 x)) base (.slice (some ⟨g, 0, none⟩) n cap) (xs.set k x) := by
  subst hn
  have := (World.ownsRow.stored h k (.int .u8 x)).1
  unfold Own
  rw [List.length_set, List.map_set]
  exact this
theorem Own.addr {w : World} {base n : Nat} {v : Value} {xs : List Int} (h : Own w base v xs) (hn : xs.length = n) (h0 : 0 < n) : ∃ g cap, v = .slice (some ⟨g, 0, none⟩) n cap ∧ base ≤ g ∧ g < w.heap.size ∧ n ≤ cap := by
  subst hn
  obtain ⟨_, ⟨_, h1⟩ | ⟨g, cap, cur, hv, hg, hh, hc, _⟩⟩ := h
  · omega
  · refine ⟨g, cap, hv, hg, ?_, hc⟩
    rcases Nat.lt_or_ge g w.heap.size with q | q
    · exact q
    · rw [Array.getElem?_eq_none q] at hh; cases hh
theorem Own.cell {w : World} {base g n cap : Nat} {xs : List Int} (h : Own w base (.slice (some ⟨g, 0, none⟩) n cap) xs) (hn : xs.length = n) (k : Nat) (hk : k < n) : w.cell? ⟨g, k, none⟩ = some (.int .u8 (xs.getD k 0)) := by
  subst hn
  rw [World.ownsRow.cellAt h k (by omega), List.getElem?_map, List.getD_eq_getElem?_getD, List.getElem?_eq_getElem hk]
  rfl
theorem Own.frozen {w : World} {base g n cap : Nat} {xs : List Int} (h : Own w base (.slice (some ⟨g, 0, none⟩) n cap) xs) (hn : xs.length = n) (k : Nat) : w.frozen? ⟨g, k, none⟩ = false := by
  subst hn
  exact World.ownsRow.frozenAt h k
theorem set_self (l : List Int) (k : Nat) : l.set k (l.getD k 0) = l := by
  rcases Nat.lt_or_ge k l.length with h | h
  · rw [List.getD_eq_getElem?_getD, List.getElem?_eq_getElem h]
    exact List.set_getElem_self h
  · exact List.set_eq_of_length_le h
set_option maxRecDepth 100000 in
theorem seals_walk (a : Option Addr) (len cap : Nat) (l : List Int) (i x : Int) (w : World) (hr : Rd w a len l) (hn : a = none → cap = 0) (hcap : len ≤ cap) (hmax : len ≤ maxLen) (hi : 0 ≤ i ∧ i ≤ 255) (hx : 0 ≤ x ∧ x ≤ 255) :
    Calls Try.prog 7 #[.slice a len cap, .int .u8 i, .int .u8 x] w fun e w' => e = .returned (.bool true) ∧ Below w.heap.size w w' := by
  have HR := Lib.hid hr
  have HN := Lib.hid hn
  clear hr hn
  have hm : len ≤ 9223372036854775807 := by unfold maxLen at hmax; omega
  obtain ⟨hi1, hi2⟩ := hi
  obtain ⟨I, rfl⟩ : ∃ I : Nat, i = I := ⟨i.toNat, by omega⟩
  obtain ⟨hx1, hx2⟩ := hx
  by_cases hlen : 100 < len
  · have hl : (100 : Int) < (len : Int) := by omega
    go_enter Try.func7, Try.ntmps7
    go_wp2_with fail
    refine (awake_any _).mono ?_
    rintro e w1 ⟨rfl, hb1⟩
    go_wp2_with fail
    go_ret
    exact ⟨rfl, hb1⟩
  · have hl : ¬ (100 : Int) < (len : Int) := by omega
    have hz : len ≤ 100 := by omega
    clear hlen hmax
    have HX := Lib.hid HR.out.2.1
    have HSX := Lib.hid (sealed_byte l HX.out)
    have HSL : Hid ((l ++ tl (dg 0 l)).length = len + 8) := Lib.hid (by rw [List.length_append, HR.out.1]; rfl)
    have HOS := Lib.hid (open_sealed l)
    have HL := Lib.hid HR.out.1
    have HB8 : Hid (∀ k, 0 ≤ (l ++ tl (dg 0 l)).getD k 0 ∧ (l ++ tl (dg 0 l)).getD k 0 ≤ 255) := Lib.hid (fun k => by
      rcases Nat.lt_or_ge k (l ++ tl (dg 0 l)).length with g | g
      · rw [List.getD_eq_getElem?_getD, List.getElem?_eq_getElem g]; exact HSX.out _ (List.getElem_mem g)
      · rw [List.getD_eq_getElem?_getD, List.getElem?_eq_none g]; exact ⟨by decide, by decide⟩)
    have HSP := Lib.hid (fun (k : Nat) (v : Int) => open_spoiled l k v HX.out)
    generalize hxs : l ++ tl (dg 0 l) = xs at *
    have HXS := Lib.hid hxs
    clear hxs
    go_enter Try.func7, Try.ntmps7
    go_wp2_with fail
    refine (awake_any _).mono ?_
    rintro e w1 ⟨rfl, b1⟩
    go_wp2_with fail
    refine (seal_any a len cap l _ (HR.out.below b1) HN.out (by omega)).mono ?_
    rintro e w2 ⟨v2, rfl, hown2, hb2⟩
    have b2 := b1.trans (hb2.mono b1.size)
    have b1s := b1.size
    go_wp2_with fail
    rw [HXS.out] at hown2
    obtain ⟨g, c2, rfl, hg, hgl, hc2⟩ := hown2.addr HSL.out (by omega)
    obtain ⟨a2, c2', hv2, r2, _, _⟩ := hown2.rdn HSX.out HSL.out
    rw [Value.slice.injEq] at hv2
    obtain ⟨rfl, -, rfl⟩ := hv2
    refine (Open_any (some ⟨g, 0, none⟩) (len + 8) c2 xs _ r2 (by omega) hc2).mono ?_
    rintro e w3 ⟨v3, rfl, hown3, hb3⟩
    rw [HOS.out.1]
    rw [HOS.out.2] at hown3
    have b3 := b2.trans (hb3.mono b2.size)
    have O2 := Lib.hid (hown2.stays hb3)
    obtain ⟨a3, c3, rfl, r3, _, _⟩ := hown3.rdn HX.out HL.out
    have R3 := Lib.hid r3
    clear hown2 hown3 hb3 r3 r2 hb2 b1
    go_wp2_with fail
    refine (same_any a3 len c3 l a len cap l _ R3.out (HR.out.below b3)).mono ?_
    rintro e w4 ⟨rfl, rfl⟩
    rw [beq_self_eq_true]
    have hk : I % (len + 8) < len + 8 := Nat.mod_lt _ (by omega)
    have hcell := O2.out.cell HSL.out (I % (len + 8)) hk
    have hfr := O2.out.frozen HSL.out (I % (len + 8))
    have hby := HB8.out (I % (len + 8))
    obtain ⟨hy1, hy2⟩ := hby
    have hxr := xr_bits (xs.getD (I % (len + 8)) 0) x hy1 hy2 hx1 hx2
    have hxb := Lib.hid (xr_byte (xs.getD (I % (len + 8)) 0) x hy2 hx2)
    have HO := Lib.hid (O2.out.stored HSL.out (I % (len + 8)) (xr (xs.getD (I % (len + 8)) 0) x))
    have HRD : Hid (∀ w', Own w' w1.heap.size (.slice (some ⟨g, 0, none⟩) (len + 8) c2) (xs.set (I % (len + 8)) (xr (xs.getD (I % (len + 8)) 0) x)) → Rd w' (some ⟨g, 0, none⟩) (len + 8) (xs.set (I % (len + 8)) (xr (xs.getD (I % (len + 8)) 0) x))) := Lib.hid (fun w' h => by
      obtain ⟨a5, c5, hv5, r5, _⟩ := h.rdn (fun z hz => by
        rcases List.mem_or_eq_of_mem_set hz with q | q
        · exact HSX.out z q
        · rw [q]; exact hxb.out) (n := len + 8) (by rw [List.length_set]; exact HSL.out)
      rw [Value.slice.injEq] at hv5
      obtain ⟨rfl, -, rfl⟩ := hv5
      exact r5)
    have HSPk := Lib.hid (HSP.out (I % (len + 8)) (xr (xs.getD (I % (len + 8)) 0) x) (by rw [HL.out]; exact hk) hxb.out)
    generalize hyy : xs.getD (I % (len + 8)) 0 = y at *
    have HY := Lib.hid hyy
    clear hyy
    have hkI : (I : Int) % ((len : Int) + 8) < (len : Int) + 8 := Int.emod_lt_of_pos _ (by omega)
    have hkI0 : 0 ≤ (I : Int) % ((len : Int) + 8) := Int.emod_nonneg _ (by omega)
    have hsz1 : w.heap.size ≤ g := Nat.le_trans b1s hg
    have b4 : Below w.heap.size w (w3.setCell ⟨g, I % (len + 8), none⟩ (.int .u8 (xr y x))) := b3.setCell hsz1 _
    have B4 := Lib.hid b4
    clear b4
    by_cases hx0 : x = 0
    · have hE : openE (xs.set (I % (len + 8)) (xr y x)) = 0 := by
        rw [hx0, xr_zero y hy1, ← HY.out, set_self]
        exact HOS.out.1
      have HE := Lib.hid hE
      have hxz : (x == 0) = true := by rw [hx0]; rfl
      clear hE hx0
      go_wp2_with fail
      refine (Open_any (some ⟨g, 0, none⟩) (len + 8) c2 _ _ (HRD.out _ HO.out) (by omega) hc2).mono ?_
      rintro e w5 ⟨v5, rfl, hown5, hb5⟩
      rw [HE.out]
      go_wp2_with fail
      go_ret
      exact ⟨rfl, B4.out.trans (hb5.mono B4.out.size)⟩
    · have hE : openE (xs.set (I % (len + 8)) (xr y x)) = 5 := HSPk.out (xr_ne y x hy1 hx1 hx0)
      have HE := Lib.hid hE
      have hxz : (x == 0) = false := beq_eq_false_iff_ne.2 hx0
      have hxn : (x != 0) = true := bne_iff_ne.2 hx0
      clear hE hx0
      go_wp2_with fail
      refine (Open_any (some ⟨g, 0, none⟩) (len + 8) c2 _ _ (HRD.out _ HO.out) (by omega) hc2).mono ?_
      rintro e w5 ⟨v5, rfl, hown5, hb5⟩
      rw [HE.out]
      go_wp2_with fail
      go_ret
      exact ⟨rfl, B4.out.trans (hb5.mono B4.out.size)⟩
end Go.Proofs.Ytdjolpclkbfeoaa
