/- The plain law of the digest: residues modulo 2^61 - 1, without any program in sight. -/
import Derived.Laws.BitsLemmas
namespace Go.Proofs.Ytdjolpclkbfeoaa

theorem and_mask31 (n : Int) : bits .and .i64 n 2147483647 = n % 2147483648 := by
  have h127 : (BitVec.ofInt 64 2147483647).toNat = 2 ^ 31 - 1 := by decide
  have key : (BitVec.ofInt 64 n &&& BitVec.ofInt 64 2147483647).toNat = (n % ((2 ^ 64 : Nat) : Int)).toNat % 2 ^ 31 := by
    rw [BitVec.toNat_and, BitVec.toNat_ofInt, h127, Nat.and_two_pow_sub_one_eq_mod]
  show IntKind.i64.wrap ((BitVec.ofInt 64 n &&& BitVec.ofInt 64 2147483647).toNat : Nat) = n % 2147483648
  rw [key, IntKind.wrap_i64]
  omega
theorem and_mask30 (n : Int) : bits .and .i64 n 1073741823 = n % 1073741824 := by
  have h127 : (BitVec.ofInt 64 1073741823).toNat = 2 ^ 30 - 1 := by decide
  have key : (BitVec.ofInt 64 n &&& BitVec.ofInt 64 1073741823).toNat = (n % ((2 ^ 64 : Nat) : Int)).toNat % 2 ^ 30 := by
    rw [BitVec.toNat_and, BitVec.toNat_ofInt, h127, Nat.and_two_pow_sub_one_eq_mod]
  show IntKind.i64.wrap ((BitVec.ofInt 64 n &&& BitVec.ofInt 64 1073741823).toNat : Nat) = n % 1073741824
  rw [key, IntKind.wrap_i64]
  omega
theorem and_15 (n : Int) : bits .and .i64 n 15 = n % 16 := by
  have h127 : (BitVec.ofInt 64 15).toNat = 2 ^ 4 - 1 := by decide
  have key : (BitVec.ofInt 64 n &&& BitVec.ofInt 64 15).toNat = (n % ((2 ^ 64 : Nat) : Int)).toNat % 2 ^ 4 := by
    rw [BitVec.toNat_and, BitVec.toNat_ofInt, h127, Nat.and_two_pow_sub_one_eq_mod]
  show IntKind.i64.wrap ((BitVec.ofInt 64 n &&& BitVec.ofInt 64 15).toNat : Nat) = n % 16
  rw [key, IntKind.wrap_i64]
  omega
theorem and_1 (n : Int) : bits .and .i64 n 1 = n % 2 := by
  have h127 : (BitVec.ofInt 64 1).toNat = 2 ^ 1 - 1 := by decide
  have key : (BitVec.ofInt 64 n &&& BitVec.ofInt 64 1).toNat = (n % ((2 ^ 64 : Nat) : Int)).toNat % 2 ^ 1 := by
    rw [BitVec.toNat_and, BitVec.toNat_ofInt, h127, Nat.and_two_pow_sub_one_eq_mod]
  show IntKind.i64.wrap ((BitVec.ofInt 64 n &&& BitVec.ofInt 64 1).toNat : Nat) = n % 2
  rw [key, IntKind.wrap_i64]
  omega

/-- The product of two numbers, by their halves, modulo 2^61 - 1. -/
theorem halves (x0 x1 y0 y1 : Int) :
    ((x0 * y0 % 2305843009213693951 + (x0 * y1 + x1 * y0) / 1073741824 + (x0 * y1 + x1 * y0) % 1073741824 * 2147483648 % 2305843009213693951 + 2 * (x1 * y1) % 2305843009213693951) % 2305843009213693951)
      = (x1 * 2147483648 + x0) * (y1 * 2147483648 + y0) % 2305843009213693951 := by
  have e : (x1 * 2147483648 + x0) * (y1 * 2147483648 + y0) = 4611686018427387904 * (x1 * y1) + 2147483648 * (x0 * y1 + x1 * y0) + x0 * y0 := by
    have h1 : x1 * 2147483648 * (y1 * 2147483648) = 4611686018427387904 * (x1 * y1) := by
      rw [show x1 * 2147483648 * (y1 * 2147483648) = x1 * y1 * (2147483648 * 2147483648) by ac_rfl]; omega
    have h2 : x1 * 2147483648 * y0 = 2147483648 * (x1 * y0) := by ac_rfl
    have h3 : x0 * (y1 * 2147483648) = 2147483648 * (x0 * y1) := by ac_rfl
    rw [Int.add_mul, Int.mul_add, Int.mul_add, h1, h2, h3]
    omega
  rw [e]
  generalize x1 * y1 = A
  generalize x0 * y1 + x1 * y0 = B
  generalize x0 * y0 = C
  omega

/-- The digest of what follows a prefix whose digest is d. -/
def dg : Int → List Int → Int
  | d, [] => d
  | d, c :: l => dg ((d * 1000003 + c + 1) % 2305843009213693951) l
/-- The power of X. -/
def pw (n : Nat) : Int := (1000003 : Int) ^ n % 2305843009213693951
def In (d : Int) : Prop := 0 ≤ d ∧ d < 2305843009213693951
theorem In.mod (n : Int) : In (n % 2305843009213693951) := ⟨Int.emod_nonneg _ (by decide), Int.emod_lt_of_pos _ (by decide)⟩
theorem dg_in (l : List Int) : ∀ d, In d → In (dg d l) := by
  induction l with
  | nil => exact fun d h => h
  | cons c l ih => exact fun d _ => ih _ (In.mod _)
theorem dg_append (l m : List Int) : ∀ d, dg d (l ++ m) = dg (dg d l) m := by
  induction l with
  | nil => exact fun d => rfl
  | cons c l ih => exact fun d => ih _
theorem dg_snoc (l : List Int) (c d : Int) : dg d (l ++ [c]) = (dg d l * 1000003 + c + 1) % 2305843009213693951 := by rw [dg_append]; rfl
theorem pw_in (n : Nat) : In (pw n) := In.mod _
theorem pw_add (m n : Nat) : pw (m + n) = pw m * pw n % 2305843009213693951 := by
  unfold pw; rw [Int.pow_add, Int.mul_emod]
/-- Digests modulo P: the digest of b behind d is d times the power, plus the digest of b alone. -/
theorem dg_lin (l : List Int) : ∀ d, In d → dg d l = (d * pw l.length + dg 0 l) % 2305843009213693951 := by
  suffices h : ∀ l : List Int, ∀ d e, In (dg d l) → (dg d l - dg e l) % 2305843009213693951 = (d - e) * (1000003 : Int) ^ l.length % 2305843009213693951 by
    intro d hd
    have h1 := h l d 0 (dg_in l d hd)
    have hin := dg_in l d hd
    have hin0 := dg_in l 0 ⟨by decide, by decide⟩
    unfold In at hin hin0
    unfold pw
    rw [← Int.emod_add_emod, Int.mul_emod, Int.emod_emod, ← Int.mul_emod]
    rw [Int.sub_zero] at h1
    rw [← h1]
    omega
  intro l
  induction l with
  | nil => intro d e _; simp [dg]
  | cons c l ih =>
    intro d e h
    show (dg _ l - dg _ l) % _ = _
    rw [ih _ _ (dg_in l _ (In.mod _)), List.length_cons, Int.pow_succ]
    rw [Int.mul_emod, Int.sub_emod, Int.emod_emod, Int.emod_emod, ← Int.sub_emod, ← Int.mul_emod]
    rw [show d * 1000003 + c + 1 - (e * 1000003 + c + 1) = (d - e) * 1000003 by omega]
    congr 1
    ac_rfl
end Go.Proofs.Ytdjolpclkbfeoaa
namespace Go.Proofs.Ytdjolpclkbfeoaa
theorem mod_mac (x y z : Int) : (x + y % 2305843009213693951 * z) % 2305843009213693951 = (x + y * z) % 2305843009213693951 := by
  rw [Int.add_emod, Int.mul_emod, Int.emod_emod, ← Int.mul_emod, ← Int.add_emod]
theorem mul_odd (a b A B O : Int) (h1 : B % 2 = 1) (h : a * b % 2305843009213693951 = (O + A * B) % 2305843009213693951) :
    a * b % 2305843009213693951 = ((O + A) % 2305843009213693951 + (A + A) % 2305843009213693951 * (B / 2)) % 2305843009213693951 := by
  rw [h, mod_mac, Int.emod_add_emod]
  congr 1
  obtain ⟨q, rfl⟩ : ∃ q, B = 2 * q + 1 := ⟨B / 2, by omega⟩
  rw [show (2 * q + 1) / 2 = q by omega, Int.mul_add, Int.add_mul, show A * (2 * q) = 2 * (A * q) by ac_rfl]
  omega
theorem mul_even (a b A B O : Int) (h1 : B % 2 ≠ 1) (h : a * b % 2305843009213693951 = (O + A * B) % 2305843009213693951) :
    a * b % 2305843009213693951 = (O + (A + A) % 2305843009213693951 * (B / 2)) % 2305843009213693951 := by
  rw [h, mod_mac]
  congr 1
  obtain ⟨q, rfl⟩ : ∃ q, B = 2 * q := ⟨B / 2, by omega⟩
  rw [show (2 * q) / 2 = q by omega, Int.add_mul, show A * (2 * q) = 2 * (A * q) by ac_rfl]
  omega
end Go.Proofs.Ytdjolpclkbfeoaa
namespace Go.Proofs.Ytdjolpclkbfeoaa
theorem mod_mul_l (x y : Int) : x % 2305843009213693951 * y % 2305843009213693951 = x * y % 2305843009213693951 := by
  rw [Int.mul_emod, Int.emod_emod, ← Int.mul_emod]
theorem mod_mul_r (x y : Int) : x * (y % 2305843009213693951) % 2305843009213693951 = x * y % 2305843009213693951 := by
  rw [Int.mul_emod, Int.emod_emod, ← Int.mul_emod]
theorem pow_mod (a : Int) (k : Nat) : (a % 2305843009213693951) ^ k % 2305843009213693951 = a ^ k % 2305843009213693951 := by
  induction k with
  | zero => simp
  | succ k ih => rw [Int.pow_succ, Int.pow_succ, mod_mul_r, Int.mul_emod, ih, ← Int.mul_emod]
theorem pow_sq (b : Int) (q : Nat) : (b * b) ^ q = b ^ (2 * q) := by
  induction q with
  | zero => simp
  | succ q ih => rw [Int.pow_succ, ih, show 2 * (q + 1) = 2 * q + 1 + 1 by omega, Int.pow_succ, Int.pow_succ]; ac_rfl
/-- What the two loops for a power keep: the power still owed. -/
def Owed (N : Nat) (o b n : Int) : Prop := pw N = o * b ^ n.toNat % 2305843009213693951
theorem Owed.start (N : Nat) : Owed N 1 1000003 N := by unfold Owed pw; rw [Int.toNat_natCast, Int.one_mul]
theorem Owed.odd {N : Nat} {o b n : Int} (h : Owed N o b n) (h0 : 0 ≤ n) (h1 : n % 2 = 1) : Owed N (o * b % 2305843009213693951) (b * b % 2305843009213693951) (n / 2) := by
  unfold Owed at *
  rw [h, mod_mul_l, Int.mul_emod (o * b), pow_mod, ← Int.mul_emod, pow_sq]
  obtain ⟨q, rfl⟩ : ∃ q : Nat, n = 2 * q + 1 := ⟨(n / 2).toNat, by omega⟩
  rw [show (2 * (q : Int) + 1).toNat = 2 * q + 1 by omega, show 2 * ((2 * (q : Int) + 1) / 2).toNat = 2 * q by omega, Int.pow_succ]
  congr 1
  ac_rfl
theorem Owed.even {N : Nat} {o b n : Int} (h : Owed N o b n) (h0 : 0 ≤ n) (h1 : n % 2 ≠ 1) : Owed N o (b * b % 2305843009213693951) (n / 2) := by
  unfold Owed at *
  rw [h, Int.mul_emod o ((b * b % 2305843009213693951) ^ _), pow_mod, ← Int.mul_emod, pow_sq]
  obtain ⟨q, rfl⟩ : ∃ q : Nat, n = 2 * q := ⟨(n / 2).toNat, by omega⟩
  rw [show (2 * (q : Int)).toNat = 2 * q by omega, show 2 * ((2 * (q : Int)) / 2).toNat = 2 * q by omega]
theorem Owed.done {N : Nat} {o b n : Int} (h : Owed N o b n) (ho : In o) (h1 : n ≤ 0) : pw N = o := by
  unfold Owed at h
  rw [h, show n.toNat = 0 by omega, Int.pow_zero, Int.mul_one, Int.emod_eq_of_lt ho.1 ho.2]
end Go.Proofs.Ytdjolpclkbfeoaa
namespace Go.Proofs.Ytdjolpclkbfeoaa
/-- X and X - 1 have inverses modulo P. -/
theorem cancel_x (a : Int) (h : a * 1000003 % 2305843009213693951 = 0) : a % 2305843009213693951 = 0 := by
  have e : a * 1000003 * 1229363429801019168 % 2305843009213693951 = 0 := by rw [Int.mul_emod, h]; rfl
  rw [Int.mul_assoc, Int.mul_emod, show (1000003 : Int) * 1229363429801019168 % 2305843009213693951 = 1 by decide, Int.mul_one, Int.emod_emod] at e
  exact e
theorem cancel_x1 (a : Int) (h : a * 1000002 % 2305843009213693951 = 0) : a % 2305843009213693951 = 0 := by
  have e : a * 1000002 * 2078503484085338480 % 2305843009213693951 = 0 := by rw [Int.mul_emod, h]; rfl
  rw [Int.mul_assoc, Int.mul_emod, show (1000002 : Int) * 2078503484085338480 % 2305843009213693951 = 1 by decide, Int.mul_one, Int.emod_emod] at e
  exact e
theorem cancel_pow (n : Nat) : ∀ a : Int, a * 1000003 ^ n % 2305843009213693951 = 0 → a % 2305843009213693951 = 0 := by
  induction n with
  | zero => intro a h; simpa using h
  | succ n ih =>
    intro a h
    rw [Int.pow_succ, ← Int.mul_assoc] at h
    exact ih a (cancel_x _ h)
theorem pow_pos (n : Nat) : 0 < pw n := by
  have hin := pw_in n
  obtain ⟨h1, _⟩ := hin
  rcases Int.lt_or_eq_of_le h1 with h | h
  · exact h
  · exfalso
    have : (1 : Int) * 1000003 ^ n % 2305843009213693951 = 0 := by rw [Int.one_mul]; exact h.symm
    have := cancel_pow n 1 this
    exact absurd this (by decide)
/-- Two digests of the same length, whose prefixes have digests d and e. -/
theorem dg_sub (l : List Int) (d e : Int) (h : dg d l = dg e l) (hd : In d) (he : In e) : d = e := by
  suffices g : ∀ l : List Int, ∀ d e, (dg d l - dg e l) % 2305843009213693951 = 0 → (d - e) % 2305843009213693951 = 0 by
    have := g l d e (by rw [h, Int.sub_self]; rfl)
    obtain ⟨h1, h2⟩ := hd
    obtain ⟨h3, h4⟩ := he
    omega
  intro l
  induction l with
  | nil => exact fun d e h => h
  | cons c l ih =>
    intro d e h
    have h1 := ih _ _ h
    rw [← Int.sub_emod, show d * 1000003 + c + 1 - (e * 1000003 + c + 1) = (d - e) * 1000003 by omega] at h1
    exact cancel_x _ h1
end Go.Proofs.Ytdjolpclkbfeoaa
