/- Hexadecimal digits: the plain law. -/
import Derived.Test.YtdjolpclkbfeoaaMath
namespace Go.Proofs.Ytdjolpclkbfeoaa

/-- The digit of a number below 16, as a byte. -/
def hx (x : Int) : Int := if x < 10 then 48 + x else 87 + x
/-- The value of a digit; -1 for other bytes. -/
def hv (c : Int) : Int := if 48 ≤ c ∧ c ≤ 57 then c - 48 else if 97 ≤ c ∧ c ≤ 102 then c - 87 else -1
theorem hv_hx (x : Int) (h0 : 0 ≤ x) (h1 : x < 16) : hv (hx x) = x := by unfold hv hx; split <;> split <;> (try split) <;> omega
theorem hx_hv (c : Int) (h : 0 ≤ hv c) : hx (hv c) = c := by unfold hv hx at *; split at h <;> (try split at h) <;> simp_all <;> (try split) <;> omega
theorem hv_lt (c : Int) : hv c < 16 := by unfold hv; split <;> (try split) <;> omega
theorem hx_byte (x : Int) (h0 : 0 ≤ x) (h1 : x < 16) : 0 ≤ hx x ∧ hx x ≤ 255 := by unfold hx; split <;> omega
/-- The k lowest digits of d, the highest of them first. -/
def hexL (d : Int) : Nat → List Int
  | 0 => []
  | k + 1 => hx (d / 16 ^ k % 16) :: hexL d k
theorem hexL_length (d : Int) : ∀ k, (hexL d k).length = k
  | 0 => rfl
  | k + 1 => by rw [hexL, List.length_cons, hexL_length d k]
theorem hexL_byte (d : Int) : ∀ k, ∀ x ∈ hexL d k, 0 ≤ x ∧ x ≤ 255
  | 0 => by simp [hexL]
  | k + 1 => by
    intro x hx'
    rcases List.mem_cons.1 hx' with h | h
    · rw [h]; exact hx_byte _ (by omega) (by omega)
    · exact hexL_byte d k x h
theorem hexL_low (d : Int) : ∀ k, hexL d (k + 1) = hexL (d / 16) k ++ [hx (d % 16)]
  | 0 => by simp [hexL]
  | k + 1 => by
    rw [hexL, hexL_low d k, hexL, List.cons_append]
    congr 3
    rw [Int.pow_succ, Int.mul_comm, ← Int.ediv_ediv_of_nonneg (by decide)]
/-- The number that a list of digits says. -/
def num : Int → List Int → Int
  | n, [] => n
  | n, c :: l => num (n * 16 + hv c) l
theorem num_append (l m : List Int) : ∀ n, num n (l ++ m) = num (num n l) m := by
  induction l with
  | nil => exact fun n => rfl
  | cons c l ih => exact fun n => ih _
theorem num_snoc (l : List Int) (c n : Int) : num n (l ++ [c]) = num n l * 16 + hv c := by rw [num_append]; rfl
theorem num_bound (l : List Int) : ∀ n, 0 ≤ n → (∀ x ∈ l, 0 ≤ hv x) → 0 ≤ num n l ∧ num n l + 1 ≤ (n + 1) * 16 ^ l.length := by
  induction l with
  | nil => intro n h _; simp [num]; omega
  | cons c l ih =>
    intro n h hc
    have hc0 := hc c (List.mem_cons_self ..)
    have hc1 := hv_lt c
    have := ih (n * 16 + hv c) (by omega) (fun x hx => hc x (List.mem_cons_of_mem _ hx))
    refine ⟨this.1, Int.le_trans this.2 ?_⟩
    rw [List.length_cons, Int.pow_succ, show (n + 1) * (16 ^ l.length * 16) = (n * 16 + 16) * 16 ^ l.length by rw [show (16 : Int) ^ l.length * 16 = 16 * 16 ^ l.length by ac_rfl, ← Int.mul_assoc]; congr 1; omega]
    exact Int.mul_le_mul_of_nonneg_right (by omega) (Int.pow_nonneg (by decide))
theorem num_hexL (d : Int) (h : 0 ≤ d) : ∀ k, num (d / 16 ^ k) (hexL d k) = d
  | 0 => by simp [num, hexL]
  | k + 1 => by
    rw [hexL, num, hv_hx _ (by omega) (by omega)]
    have : d / 16 ^ (k + 1) * 16 + d / 16 ^ k % 16 = d / 16 ^ k := by
      rw [Int.pow_succ, ← Int.ediv_ediv_of_nonneg (Int.pow_nonneg (by decide))]; omega
    rw [this]
    exact num_hexL d h k
theorem hexL_num (l : List Int) : ∀ n, 0 ≤ n → (∀ x ∈ l, 0 ≤ hv x) → hexL (num n l) l.length = l ∧ num n l / 16 ^ l.length = n := by
  induction l with
  | nil => intro n _ _; simp [hexL, num]
  | cons c l ih =>
    intro n hn hc
    have hc0 := hc c (List.mem_cons_self ..)
    have hc1 := hv_lt c
    have h := ih (n * 16 + hv c) (by omega) (fun x hx => hc x (List.mem_cons_of_mem _ hx))
    rw [List.length_cons, hexL, num, h.1, h.2]
    refine ⟨?_, ?_⟩
    · rw [show (n * 16 + hv c) % 16 = hv c by omega, hx_hv c hc0]
    · rw [Int.pow_succ, ← Int.ediv_ediv_of_nonneg (Int.pow_nonneg (by decide)), h.2]; omega
/-- What Print and Parse say. -/
def printV (d : Int) : List Int := if 0 ≤ d ∧ d < 2305843009213693951 then hexL d 16 else []
def printE (d : Int) : Int := if 0 ≤ d ∧ d < 2305843009213693951 then 0 else 2
def ParseOk (l : List Int) : Prop := l.length = 16 ∧ ∀ x ∈ l, 0 ≤ hv x
instance (l : List Int) : Decidable (ParseOk l) := by unfold ParseOk; infer_instance
def parseV (l : List Int) : Int := if ParseOk l then (if num 0 l < 2305843009213693951 then num 0 l else 0) else 0
def parseE (l : List Int) : Int := if ParseOk l then (if num 0 l < 2305843009213693951 then 0 else 2) else 6
theorem parse_print (d : Int) (h : printE d = 0) : parseV (printV d) = d ∧ parseE (printV d) = 0 := by
  unfold printE at h
  split at h
  case isFalse => exact absurd h (by decide)
  case isTrue g =>
    unfold printV
    rw [if_pos g]
    have hd : num 0 (hexL d 16) = d := by
      have := num_hexL d g.1 16
      rwa [show d / 16 ^ 16 = 0 by omega] at this
    have hok : ParseOk (hexL d 16) := ⟨hexL_length d 16, by
      suffices h : ∀ k, ∀ x ∈ hexL d k, 0 ≤ hv x from h 16
      intro k
      induction k with
      | zero => simp [hexL]
      | succ k ih =>
        intro x hx'
        rcases List.mem_cons.1 hx' with h | h
        · rw [h, hv_hx _ (by omega) (by omega)]; omega
        · exact ih x h⟩
    unfold parseV parseE
    rw [if_pos hok, if_pos hok, hd, if_pos g.2, if_pos g.2]
    exact ⟨rfl, rfl⟩
theorem print_parse (l : List Int) (h : parseE l = 0) : printV (parseV l) = l ∧ printE (parseV l) = 0 := by
  unfold parseE at h
  split at h
  case isFalse => exact absurd h (by decide)
  case isTrue g =>
    split at h
    case isFalse => exact absurd h (by decide)
    case isTrue g2 =>
      have g1 : 0 ≤ num 0 l := (num_bound l 0 (by decide) g.2).1
      unfold parseV printV printE
      rw [if_pos g, if_pos g2, if_pos ⟨g1, g2⟩, if_pos ⟨g1, g2⟩]
      have := (hexL_num l 0 (by decide) g.2).1
      rw [g.1] at this
      exact ⟨this, rfl⟩
end Go.Proofs.Ytdjolpclkbfeoaa
