/- The contracts of Parse, of the program and of the reference. -/
import Derived.Test.YtdjolpclkbfeoaaW6
namespace Go.Proofs.Ytdjolpclkbfeoaa
set_option linter.unusedVariables false
open Go.RowKit

/-- A string's bytes, as numbers. -/
def nb (s : ByteArray) : List Int := s.data.toList.map fun c => (c.toNat : Int)
theorem nb_length (s : ByteArray) : (nb s).length = s.size := by unfold nb; rw [List.length_map]; rfl
theorem nb_byte (s : ByteArray) : ∀ x ∈ nb s, 0 ≤ x ∧ x ≤ 255 := by
  intro x hx
  obtain ⟨c, _, rfl⟩ := List.mem_map.1 hx
  have := c.toNat_lt
  omega
theorem bs_nb (s : ByteArray) : bs (nb s) = s := by
  apply ByteArray.ext
  simp [bs, nb, List.map_map, Function.comp_def]
theorem nb_bs (l : List Int) (h : ∀ x ∈ l, 0 ≤ x ∧ x ≤ 255) : nb (bs l) = l := by
  simp only [bs, nb, List.map_map]
  conv => rhs; rw [← List.map_id l]
  apply List.map_congr_left
  intro x hx
  have := h x hx
  simp
  omega
/-- Byte k of a string. -/
def at_ (s : ByteArray) (k : Nat) : Int := (nb s).getD k 0
theorem get_at (s : ByteArray) (n : Nat) (h : n < s.size) : ((s[n]'h).toNat : Int) = at_ s n := by
  unfold at_ nb
  rw [List.getD_eq_getElem?_getD, List.getElem?_map, List.getElem?_eq_getElem (show n < s.data.toList.length from h)]
  rfl
theorem at_byte (s : ByteArray) (k : Nat) : 0 ≤ at_ s k ∧ at_ s k ≤ 255 := by
  unfold at_
  rcases Nat.lt_or_ge k (nb s).length with g | g
  · rw [List.getD_eq_getElem?_getD, List.getElem?_eq_getElem g]; exact nb_byte s _ (List.getElem_mem g)
  · rw [List.getD_eq_getElem?_getD, List.getElem?_eq_none g]; exact ⟨by decide, by decide⟩
theorem num_take (l : List Int) (k : Nat) (h : k < l.length) : num 0 (l.take (k + 1)) = num 0 (l.take k) * 16 + hv (l.getD k 0) := by
  rw [List.take_succ_eq_append_getElem h, num_snoc, List.getD_eq_getElem?_getD, List.getElem?_eq_getElem h]; rfl
theorem or_low (n x : Int) (h0 : 0 ≤ n) (h1 : n < 1152921504606846976) (h2 : 0 ≤ x) (h3 : x < 16) : bits .or .u64 (n * 16) x = n * 16 + x := by
  rw [bits_join .u64 64 (by decide) (fun n g0 g1 => IntWalk.u64_in n ⟨g0, by omega⟩) 4 (n * 16) x (by omega) (by omega) (by omega) h2 (by omega) (by omega)]

/-- What the digits say so far, or none. -/
theorem hv_of (c : Int) (h0 : 48 ≤ c) (h1 : c ≤ 57) : hv c = c - 48 := if_pos ⟨h0, h1⟩
theorem hv_of' (c : Int) (h0 : 97 ≤ c) (h1 : c ≤ 102) : hv c = c - 87 := by unfold hv; rw [if_neg (by omega), if_pos ⟨h0, h1⟩]
theorem hv_no (c : Int) (h0 : c < 48 ∨ 57 < c) (h1 : c < 97 ∨ 102 < c) : hv c = -1 := by unfold hv; rw [if_neg (by omega), if_neg (by omega)]
theorem hv_cases (c : Int) : (48 ≤ c ∧ c ≤ 57 ∧ hv c = c - 48) ∨ (97 ≤ c ∧ c ≤ 102 ∧ hv c = c - 87) ∨ ((c < 48 ∨ (57 < c ∧ c < 97) ∨ 102 < c) ∧ hv c = -1) := by
  by_cases h0 : 48 ≤ c ∧ c ≤ 57
  · exact .inl ⟨h0.1, h0.2, hv_of c h0.1 h0.2⟩
  · by_cases h1 : 97 ≤ c ∧ c ≤ 102
    · exact .inr (.inl ⟨h1.1, h1.2, hv_of' c h1.1 h1.2⟩)
    · exact .inr (.inr ⟨by omega, hv_no c (by omega) (by omega)⟩)
set_option maxRecDepth 100000 in
theorem digit_any (c : Int) (w : World) (h0 : 0 ≤ c) (h1 : c ≤ 255) : Calls Try.prog 28 #[.int .u8 c] w fun e w' => e = .returned (.int .i64 (hv c)) ∧ w = w' := by
  rcases hv_cases c with ⟨a, b, h⟩ | ⟨a, b, h⟩ | ⟨h2, h⟩
  · rw [h]
    go_enter Try.func28, Try.ntmps28
    go_wp2_with fail
    go_ret
    exact ⟨rfl, rfl⟩
  · rw [h]
    have q : ¬ c ≤ 57 := by omega
    go_enter Try.func28, Try.ntmps28
    go_wp2_with fail
    go_ret
    exact ⟨by show Ending.returned (.int .i64 (c - 97 + 10)) = _; rw [show c - 97 + 10 = c - 87 by omega], rfl⟩
  · rw [h]
    clear h
    rcases h2 with h2 | ⟨h2, h3⟩ | h2
    all_goals
      go_enter Try.func28, Try.ntmps28
      go_wp2_with fail
      go_ret
      exact ⟨rfl, rfl⟩
end Go.Proofs.Ytdjolpclkbfeoaa
namespace Go.Proofs.Ytdjolpclkbfeoaa
open Go.RowKit
theorem conv_str (s : ByteArray) (w : World) : ∃ c w1, (convert 9 29 (.string s)).run Try.prog w = .ok (.slice (some ⟨w.heap.size, 0, none⟩) s.size c) w1 ∧ Rd w1 (some ⟨w.heap.size, 0, none⟩) s.size (nb s) ∧ Below w.heap.size w w1 := by
  refine ⟨_, _, run_bytes_of_string (P := Try.prog) w 9 29 5 s Try.underlying9 Try.underlying29 Try.underlying5, ⟨nb_length s, nb_byte s, fun i hi => ⟨_, _, rfl, ?_⟩⟩, ((Below.refl _ _).drew).alloc (Nat.le_refl _) _⟩
  rw [Nat.zero_add]
  refine (World.cell?_alloc_mark w.drew _ _ _ i).trans ?_
  rw [bytesRow_at s _ i hi]
  congr 2
  rw [← show at_ s i = (nb s).getD i 0 from rfl, ← get_at s i hi]
  rfl
theorem num_small (l : List Int) (k : Nat) (hl : l.length = 16) (hk : k < 16) (h : ∀ x ∈ l.take k, 0 ≤ hv x) : 0 ≤ num 0 (l.take k) ∧ num 0 (l.take k) < 1152921504606846976 := by
  have := num_bound (l.take k) 0 (by decide) h
  rw [List.length_take, show min k l.length = k by omega] at this
  have h2 : (16 : Int) ^ k ≤ 16 ^ 15 := by
    have e : (16 : Int) ^ 15 = 16 ^ k * 16 ^ (15 - k) := by rw [← Int.pow_add]; congr 1; omega
    rw [e]
    have p1 : (0 : Int) < 16 ^ k := Int.pow_pos (by decide)
    have p2 : (1 : Int) ≤ 16 ^ (15 - k) := by have : (0 : Int) < 16 ^ (15 - k) := Int.pow_pos (by decide); omega
    have := Int.mul_le_mul_of_nonneg_left p2 (Int.le_of_lt p1)
    omega
  omega
theorem take_valid (l : List Int) (k : Nat) (hk : k < l.length) (h : ∀ x ∈ l.take k, 0 ≤ hv x) (hc : 0 ≤ hv (l.getD k 0)) : ∀ x ∈ l.take (k + 1), 0 ≤ hv x := by
  rw [List.take_succ_eq_append_getElem hk]
  intro x hx
  rcases List.mem_append.1 hx with g | g
  · exact h x g
  · rw [List.mem_singleton] at g
    rw [List.getD_eq_getElem?_getD, List.getElem?_eq_getElem hk] at hc
    rw [g]; exact hc
theorem not_parseOk (l : List Int) (k : Nat) (hk : k < l.length) (hc : hv (l.getD k 0) < 0) : ¬ ParseOk l := fun h => by
  have := h.2 l[k] (List.getElem_mem hk)
  rw [List.getD_eq_getElem?_getD, List.getElem?_eq_getElem hk] at hc
  simp at hc
  omega
theorem parse_bad (l : List Int) (h : ¬ ParseOk l) : parseV l = 0 ∧ parseE l = 6 := by unfold parseV parseE; rw [if_neg h, if_neg h]; exact ⟨rfl, rfl⟩
theorem parse_great (l : List Int) (h : ParseOk l) (g : ¬ num 0 l < 2305843009213693951) : parseV l = 0 ∧ parseE l = 2 := by unfold parseV parseE; rw [if_pos h, if_pos h, if_neg g, if_neg g]; exact ⟨rfl, rfl⟩
theorem parse_good (l : List Int) (h : ParseOk l) (g : num 0 l < 2305843009213693951) : parseV l = num 0 l ∧ parseE l = 0 := by unfold parseV parseE; rw [if_pos h, if_pos h, if_pos g, if_pos g]; exact ⟨rfl, rfl⟩
end Go.Proofs.Ytdjolpclkbfeoaa
