/- What a changed byte, and two exchanged bytes, do to a digest; the plain law of sealing. -/
import Derived.Test.YtdjolpclkbfeoaaWC
import Derived.Laws.BitsAllLaws
namespace Go.Proofs.Ytdjolpclkbfeoaa
set_option linter.unusedVariables false
open Go.RowKit
/-- The exclusive or of two bytes. -/
def xr (a b : Int) : Int := ((a.toNat ^^^ b.toNat : Nat) : Int)
theorem xr_bits (a b : Int) (h1 : 0 ≤ a) (h2 : a ≤ 255) (h3 : 0 ≤ b) (h4 : b ≤ 255) : bits .xor .u8 a b = xr a b := u8_xor a b h1 (by omega) h3 (by omega)
theorem xr_byte (a b : Int) (h2 : a ≤ 255) (h4 : b ≤ 255) : 0 ≤ xr a b ∧ xr a b ≤ 255 := by
  have h : a.toNat ^^^ b.toNat < 2 ^ 8 := Nat.xor_lt_two_pow (by omega) (by omega)
  unfold xr
  omega
theorem xr_zero (a : Int) (h : 0 ≤ a) : xr a 0 = a := by
  unfold xr
  rw [show (0 : Int).toNat = 0 from rfl, Nat.xor_zero]
  omega
theorem xr_ne (a b : Int) (h1 : 0 ≤ a) (h3 : 0 ≤ b) (h : b ≠ 0) : xr a b ≠ a := by
  intro g
  unfold xr at g
  have g' : a.toNat ^^^ b.toNat = a.toNat := by omega
  have : a.toNat ^^^ (a.toNat ^^^ b.toNat) = a.toNat ^^^ a.toNat := by rw [g']
  rw [← Nat.xor_assoc, Nat.xor_self, Nat.zero_xor] at this
  omega
theorem set_split (l : List Int) (k : Nat) (v : Int) (h : k < l.length) : l = l.take k ++ l.getD k 0 :: l.drop (k + 1) ∧ l.set k v = l.take k ++ v :: l.drop (k + 1) := by
  refine ⟨?_, List.set_eq_take_append_cons_drop ▸ by rw [if_pos h]⟩
  rw [List.getD_eq_getElem?_getD, List.getElem?_eq_getElem h]
  simp
theorem step_inj (D c c' : Int) (h : (D * 1000003 + c + 1) % 2305843009213693951 = (D * 1000003 + c' + 1) % 2305843009213693951) (h0 : 0 ≤ c) (h1 : c ≤ 255) (h2 : 0 ≤ c') (h3 : c' ≤ 255) : c = c' := by
  omega
theorem step_mod (u c : Int) : (u % 2305843009213693951 * 1000003 + c + 1) % 2305843009213693951 = (u * 1000003 + c + 1) % 2305843009213693951 := by
  rw [Int.add_assoc, Int.add_emod, mod_mul_l, ← Int.add_emod, ← Int.add_assoc]
theorem sub_mod (x y : Int) (h : x % 2305843009213693951 = y % 2305843009213693951) : (x - y) % 2305843009213693951 = 0 := by
  rw [Int.sub_emod, h, Int.sub_self]; rfl
/-- A changed byte changes the digest. -/
theorem dg_set (l : List Int) (k : Nat) (v : Int) (h : k < l.length) (hl : ∀ x ∈ l, 0 ≤ x ∧ x ≤ 255) (hv : 0 ≤ v ∧ v ≤ 255) (hne : v ≠ l.getD k 0) : dg 0 (l.set k v) ≠ dg 0 l := by
  intro g
  obtain ⟨e1, e2⟩ := set_split l k v h
  have hc : 0 ≤ l.getD k 0 ∧ l.getD k 0 ≤ 255 := by
    rw [List.getD_eq_getElem?_getD, List.getElem?_eq_getElem h]
    exact hl _ (List.getElem_mem h)
  rw [e2] at g
  have g2 := g
  conv at g2 => rhs; rw [e1]
  rw [dg_append, dg_append] at g2
  have := dg_sub (l.drop (k + 1)) _ _ g2 (In.mod _) (In.mod _)
  exact hne (step_inj _ _ _ this hv.1 hv.2 hc.1 hc.2)
/-- Exchanging two neighbours changes the digest, unless they are equal. -/
theorem dg_swap (l : List Int) (k : Nat) (h : k + 1 < l.length) (hl : ∀ x ∈ l, 0 ≤ x ∧ x ≤ 255) : (dg 0 ((l.set k (l.getD (k + 1) 0)).set (k + 1) (l.getD k 0)) == dg 0 l) = (l.getD k 0 == l.getD (k + 1) 0) := by
  have hk : k < l.length := by omega
  have e1 : l = l.take k ++ l.getD k 0 :: l.getD (k + 1) 0 :: l.drop (k + 2) := by
    conv => lhs; rw [(set_split l k 0 hk).1]
    congr 2
    rw [List.getD_eq_getElem?_getD, List.getElem?_eq_getElem h]
    simp
  have hb : ∀ i, i < l.length → 0 ≤ l.getD i 0 ∧ l.getD i 0 ≤ 255 := fun i hi => by
    rw [List.getD_eq_getElem?_getD, List.getElem?_eq_getElem hi]
    exact hl _ (List.getElem_mem hi)
  obtain ⟨a1, a2⟩ := hb k hk
  obtain ⟨b1, b2⟩ := hb (k + 1) h
  generalize l.getD k 0 = a at *
  generalize l.getD (k + 1) 0 = b at *
  have e2 : (l.set k b).set (k + 1) a = l.take k ++ b :: a :: l.drop (k + 2) := by
    conv => lhs; rw [e1]
    have hlen : (l.take k).length = k := by rw [List.length_take]; omega
    rw [List.set_append_right _ _ (by omega), List.set_append_right _ _ (by omega), hlen, Nat.sub_self, show k + 1 - k = 1 by omega]
    rfl
  rw [e2]
  conv => lhs; rhs; rw [e1]
  rw [dg_append, dg_append]
  generalize dg 0 (l.take k) = D
  by_cases hab : a = b
  · subst hab; simp
  · rw [beq_eq_false_iff_ne.2 hab, beq_eq_false_iff_ne]
    intro g
    have g1 := dg_sub (l.drop (k + 2)) _ _ g (In.mod _) (In.mod _)
    rw [step_mod, step_mod] at g1
    have g2 : ((b - a) * 1000002) % 2305843009213693951 = 0 := by
      have := sub_mod _ _ g1
      rwa [show (D * 1000003 + b + 1) * 1000003 + a + 1 - ((D * 1000003 + a + 1) * 1000003 + b + 1) = (b - a) * 1000002 by omega] at this
    have g3 := cancel_x1 _ g2
    clear g g1 g2
    omega
theorem tl_inj (d e : Int) (hd : In d) (he : In e) (h : tl d = tl e) : d = e := by
  simp only [tl, List.cons.injEq, and_true] at h
  obtain ⟨h1, h2⟩ := hd
  obtain ⟨h3, h4⟩ := he
  omega
/-- What was sealed is opened. -/
theorem open_sealed (l : List Int) : openE (l ++ tl (dg 0 l)) = 0 ∧ openV (l ++ tl (dg 0 l)) = l := by
  have h8 : (tl (dg 0 l)).length = 8 := rfl
  have hn : (l ++ tl (dg 0 l)).length - 8 = l.length := by rw [List.length_append, h8]; omega
  have e : openE (l ++ tl (dg 0 l)) = 0 := by
    unfold openE
    rw [if_neg (by rw [List.length_append, h8]; omega), hn, List.take_left, List.drop_left, if_pos rfl]
  refine ⟨e, ?_⟩
  unfold openV
  rw [if_pos e, hn, List.take_left]
/-- A changed byte is found. -/
theorem open_spoiled (l : List Int) (k : Nat) (v : Int) (hl : ∀ x ∈ l, 0 ≤ x ∧ x ≤ 255) (h : k < l.length + 8) (hv : 0 ≤ v ∧ v ≤ 255) (hne : v ≠ (l ++ tl (dg 0 l)).getD k 0) : openE ((l ++ tl (dg 0 l)).set k v) = 5 := by
  have h8 : (tl (dg 0 l)).length = 8 := rfl
  have hn : ((l ++ tl (dg 0 l)).set k v).length - 8 = l.length := by rw [List.length_set, List.length_append, h8]; omega
  unfold openE
  rw [if_neg (by rw [List.length_set, List.length_append, h8]; omega), hn, if_neg]
  intro g
  by_cases hk : k < l.length
  · rw [List.set_append_left _ _ hk, List.take_left' (by rw [List.length_set]), List.drop_left' (by rw [List.length_set])] at g
    have := tl_inj _ _ (dg_in _ _ ⟨by decide, by decide⟩) (dg_in _ _ ⟨by decide, by decide⟩) g
    refine dg_set l k v hk hl hv ?_ this
    rw [List.getD_eq_getElem?_getD, List.getElem?_append_left hk, ← List.getD_eq_getElem?_getD] at hne
    exact hne
  · rw [List.set_append_right _ _ (by omega), List.take_left, List.drop_left] at g
    have hkk : k - l.length < (tl (dg 0 l)).length := by omega
    have g2 := congrArg (fun x => x.getD (k - l.length) 0) g
    simp only [List.getD_eq_getElem?_getD, List.getElem?_set_self hkk] at g2
    rw [List.getD_eq_getElem?_getD, List.getElem?_append_right (by omega)] at hne
    exact hne g2.symm
end Go.Proofs.Ytdjolpclkbfeoaa
