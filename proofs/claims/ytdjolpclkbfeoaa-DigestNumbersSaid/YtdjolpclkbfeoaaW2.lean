/- The folds of the digest over a slice of bytes: what the two loops compute. -/
import Derived.Test.YtdjolpclkbfeoaaW1
namespace Go.Proofs.Ytdjolpclkbfeoaa
set_option linter.unusedVariables false
open Go.RowKit

/-- The slice whose address is a reads as the bytes l in w. -/
def Rd (w : World) (a : Option Addr) (len : Nat) (l : List Int) : Prop :=
  l.length = len ∧ (∀ x ∈ l, 0 ≤ x ∧ x ≤ 255) ∧ ∀ i, i < len → ∃ b off, a = some ⟨b, off, none⟩ ∧ w.cell? ⟨b, off + i, none⟩ = some (.int .u8 (l.getD i 0))
theorem cell_lt {w : World} {a : Addr} {v : Value} (h : w.cell? a = some v) : a.block < w.heap.size := by
  rcases Nat.lt_or_ge a.block w.heap.size with g | g
  · exact g
  · simp [World.cell?, Array.getElem?_eq_none g] at h
theorem Rd.below {w w' : World} {a : Option Addr} {len : Nat} {l : List Int} (h : Rd w a len l) (hb : Below w.heap.size w w') : Rd w' a len l :=
  ⟨h.1, h.2.1, fun i hi => let ⟨b, off, e, hc⟩ := h.2.2 i hi; ⟨b, off, e, by rw [hb.cell (cell_lt hc)]; exact hc⟩⟩
theorem Rd.byte {w : World} {a : Option Addr} {len : Nat} {l : List Int} (h : Rd w a len l) (i : Nat) : 0 ≤ l.getD i 0 ∧ l.getD i 0 ≤ 255 := by
  rcases Nat.lt_or_ge i l.length with g | g
  · rw [List.getD_eq_getElem?_getD, List.getElem?_eq_getElem g]; exact h.2.1 _ (List.getElem_mem g)
  · rw [List.getD_eq_getElem?_getD, List.getElem?_eq_none g]; exact ⟨by decide, by decide⟩
theorem dg_take (l : List Int) (d : Int) (k : Nat) (h : k < l.length) : dg d (l.take (k + 1)) = (dg d (l.take k) * 1000003 + l.getD k 0 + 1) % 2305843009213693951 := by
  rw [List.take_succ_eq_append_getElem h, dg_snoc, List.getD_eq_getElem?_getD, List.getElem?_eq_getElem h]; rfl
theorem dg_step (l : List Int) (d : Int) (k : Nat) (h : k < l.length) : (dg d (l.take k) * 1000003 % 2305843009213693951 + l.getD k 0 + 1) % 2305843009213693951 = dg d (l.take (k + 1)) := by
  rw [dg_take l d k h, Int.add_assoc, Int.emod_add_emod, Int.add_assoc]

set_option maxRecDepth 100000 in
theorem more_any (d : Int) (a : Option Addr) (len cap : Nat) (l : List Int) (w : World) (hd : In d) (hr : Rd w a len l) (hlen : len ≤ maxLen) :
    Calls Try.prog 30 #[.int .i64 d, .slice a len cap] w fun e w' => e = .returned (.int .i64 (dg d l)) ∧ Below w.heap.size w w' := by
  unfold maxLen at hlen
  have HR := Lib.hid hr
  clear hr
  cases a with
  | none =>
    have hl : len = 0 := by
      rcases Nat.eq_zero_or_pos len with h | h
      · exact h
      · obtain ⟨b, off, e, _⟩ := HR.out.2.2 0 h; cases e
    subst hl
    have hl : l = [] := List.eq_nil_of_length_eq_zero HR.out.1
    subst hl
    go_enter Try.func30, Try.ntmps30
    go_wp2_with fail
    refine wp_loop_rounds 1 ?_
    rw [rounds_succ]
    go_wp2_with fail
    go_ret
    exact ⟨rfl, Below.refl _ _⟩
  | some a =>
    obtain ⟨b, off, sp⟩ := a
    go_enter Try.func30, Try.ntmps30
    go_wp2_with fail
    go_loopw [0, 9] (fun x i wr => ∃ k : Nat, k ≤ len ∧ i = .int .i64 k ∧ x = .int .i64 (dg d (l.take k)) ∧ Below w.heap.size w wr) (fun _ i _ => len - (intOf i).toNat)
    case atStart => exact ⟨0, Nat.zero_le _, rfl, rfl, Below.refl _ _⟩
    case round =>
      obtain ⟨k, hk, rfl, rfl, hB⟩ := hrel
      by_cases hlt : k < len
      · obtain ⟨b', off', e, hc⟩ := (HR.out.below hB).2.2 k hlt
        cases e
        have hby := HR.out.byte k
        have hin := dg_in (l.take k) d hd
        obtain ⟨hin1, hin2⟩ := hin
        have H : Hid _ := Lib.hid (dg_step l d k (by rw [HR.out.1]; exact hlt))
        generalize hv : l.getD k 0 = v at *
        generalize hu : dg d (l.take k) = u at *
        have HV := Lib.hid hv
        have HU := Lib.hid hu
        clear hv hu
        go_wp2_with fail
        refine (times_any _ _ _ hin1 hin2 (by omega) (by omega)).mono ?_
        rintro e w1 ⟨rfl, hb1⟩
        have hm : 0 ≤ u * 1000003 % 2305843009213693951 ∧ u * 1000003 % 2305843009213693951 < 2305843009213693951 := In.mod _
        obtain ⟨hm1, hm2⟩ := hm
        go_wp2_with fail
        go_roundw
        case rel => exact ⟨k + 1, by omega, by go_num, by rw [← H.out], hB.trans (hb1.mono hB.size)⟩
        case measure => simp [intOf]; omega
      · go_wp2_with fail
        go_ret
        exact ⟨by rw [List.take_of_length_le (by rw [HR.out.1]; omega)]; rfl, hB⟩
end Go.Proofs.Ytdjolpclkbfeoaa
