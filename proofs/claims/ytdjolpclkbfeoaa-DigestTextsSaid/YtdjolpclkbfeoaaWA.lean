/- The reference's Seal and Open; the examples. -/
import Derived.Test.YtdjolpclkbfeoaaW9
namespace Go.Proofs.Ytdjolpclkbfeoaa
set_option linter.unusedVariables false
open Go.RowKit

theorem Own.stays {w w' : World} {base : Nat} {v : Value} {xs : List Int} (h : Own w base v xs) (hb : Below w.heap.size w w') : Own w' base v xs := by
  obtain ⟨h0, h | ⟨g, cap, cur, hv, hg, hh, r⟩⟩ := h
  · exact ⟨h0, .inl h⟩
  · refine ⟨h0, .inr ⟨g, cap, cur, hv, hg, ?_, r⟩⟩
    rw [hb.block g (by
      rcases Nat.lt_or_ge g w.heap.size with q | q
      · exact q
      · rw [Array.getElem?_eq_none q] at hh; cases hh)]
    exact hh
/-- The k lowest bytes of a digest, the highest of them first. -/
def tlK (d : Int) : Nat → List Int
  | 0 => []
  | k + 1 => (d / 256 ^ k % 256) :: tlK d k
theorem tlK_8 (d : Int) : tlK d 8 = tl d := by
  simp [tlK, tl]
theorem tlK_byte (d : Int) (k : Nat) : 0 ≤ d / 256 ^ k % 256 ∧ d / 256 ^ k % 256 ≤ 255 := by omega
set_option maxRecDepth 100000 in
theorem rSeal_any (a : Option Addr) (len cap : Nat) (l : List Int) (w : World) (hr : Rd w a len l) (hn : a = none → cap = 0) (hlen : len < 1048576) :
    Calls Try.prog 27 #[.slice a len cap] w fun e w' => ∃ v, e = .returned v ∧ Own w' w.heap.size v (l ++ tl (dg 0 l)) ∧ Below w.heap.size w w' := by
  have hin := dg_in l 0 ⟨by decide, by decide⟩
  obtain ⟨hi1, hi2⟩ := hin
  have HR := Lib.hid hr
  have HN := Lib.hid hn
  have HL := Lib.hid hr.1
  clear hr hn
  have hN := Own.empty w
  have eB : Below w.heap.size w (w.alloc (.cells #[] 5)) := (Below.refl _ _).alloc (Nat.le_refl _) _
  have hA := HR.out.below eB
  have HA := Lib.hid hA
  have EB := Lib.hid eB
  clear hA eB
  go_enter Try.func27, Try.ntmps27
  go_wp2_with (at_builtin; refine app_rd rfl _ _ rfl w.heap.size _ [] rfl hN a len cap l rfl HA.out HN.out ?_ ?_ ?_)
  · simp; have := HL.out; omega
  · exact EB.out.size
  intro v1 w1 hown1 hb1
  have HB := Lib.hid (EB.out.trans hb1)
  clear hb1 hN
  go_wp2_with fail
  refine (rOf_any a len cap l _ (HR.out.below HB.out) (by unfold maxLen; omega)).mono ?_
  rintro e w2 ⟨rfl, hb2⟩
  have hown2 : Own w2 w.heap.size v1 l := by
    have h := hown1
    obtain ⟨h0, h | ⟨g, cap, cur, hv, hg, hh, r⟩⟩ := h
    · exact ⟨h0, .inl h⟩
    · refine ⟨h0, .inr ⟨g, cap, cur, hv, hg, ?_, r⟩⟩
      rw [hb2.block g (by
        rcases Nat.lt_or_ge g w1.heap.size with q | q
        · exact q
        · rw [Array.getElem?_eq_none q] at hh; cases hh)]
      exact hh
  have HB2 := Lib.hid (HB.out.trans (hb2.mono HB.out.size))
  clear hown1 hb2
  generalize hdd : dg 0 l = d at *
  have HD := Lib.hid hdd
  clear hdd
  go_wp2_with fail
  go_loopw [3, 5] (fun v i wr => ∃ (k : Nat) (xs : List Int), k ≤ 8 ∧ i = .int .i64 ((k : Int) - 1) ∧ Own wr w.heap.size v xs ∧ Hid (l ++ tl d = xs ++ tlK d k ∧ xs.length + k = len + 8) ∧ Below w.heap.size w wr) (fun _ i _ => (intOf i + 1).toNat)
  case atStart => exact ⟨8, l, by omega, rfl, hown2, ⟨by rw [tlK_8], by rw [HL.out]⟩, HB2.out⟩
  case round =>
    obtain ⟨k, xs, hk, rfl, hown, H, hB⟩ := hrel
    cases k with
    | succ k =>
      have hsh : (2 : Int) ^ (8 * k) = 256 ^ k := by rw [Int.pow_mul]; rfl
      obtain ⟨hc1, hc2⟩ := tlK_byte d k
      obtain ⟨c, hcd⟩ : ∃ c, d / 256 ^ k % 256 = c := ⟨_, rfl⟩
      rw [hcd] at hc1 hc2
      go_wp2_with (at_builtin; refine app_byte rfl _ _ rfl w.heap.size _ xs rfl (hown.alloc _) ⟨wr.heap.size, 0, none⟩ c rfl ?c1 ?c2 ?c3 ?_)
      case c1 => simp [go_sem]
      case c2 => have := H.out.2; omega
      case c3 => have := hB.size; rw [World.size_alloc]; omega
      intro v' w' hown' hb'
      have HC := Lib.hid hcd
      clear hcd
      go_wp2_with fail
      go_roundw
      case rel => exact ⟨k, xs ++ [c], by omega, rfl, hown', ⟨by rw [H.out.1, List.append_assoc, tlK, HC.out]; rfl, by have := H.out.2; simp; omega⟩, (hB.alloc hB.size _).trans hb'⟩
      case measure => simp [intOf] <;> omega
    | zero =>
      go_wp2_with fail
      go_ret
      refine ⟨_, rfl, ?_, hB⟩
      rw [HD.out, H.out.1]
      simp only [tlK, List.append_nil]
      exact hown

set_option maxRecDepth 100000 in
theorem rOpen_short (a : Option Addr) (len cap : Nat) (l : List Int) (w : World) (hr : Rd w a len l) (hlen : len < 8) :
    Calls Try.prog 25 #[.slice a len cap] w fun e w' => e = .returned (.tuple #[.slice none 0 0, .int .i64 4]) ∧ Below w.heap.size w w' := by
  have HR := Lib.hid hr
  clear hr
  go_enter Try.func25, Try.ntmps25
  go_wp2_with fail
  go_ret2
  exact ⟨rfl, Below.refl _ _⟩
theorem open_iff (l : List Int) (n : Nat) (h : l.length = n + 8) : (l.take n ++ tl (dg 0 (l.take n)) == l) = (tl (dg 0 (l.take n)) == l.drop n) := by
  have e : l = l.take n ++ l.drop n := (List.take_append_drop n l).symm
  by_cases hm : tl (dg 0 (l.take n)) = l.drop n
  · rw [hm, beq_self_eq_true, ← e, beq_self_eq_true]
  · rw [beq_eq_false_iff_ne.2 hm, beq_eq_false_iff_ne.2]
    intro g
    apply hm
    have : l.take n ++ tl (dg 0 (l.take n)) = l.take n ++ l.drop n := by rw [g]; exact e
    exact List.append_cancel_left this
set_option maxRecDepth 100000 in
theorem rOpen_long (b off len cap : Nat) (l : List Int) (w : World) (hr : Rd w (some ⟨b, off, none⟩) len l) (hlen : len < 1048576) (h8 : 8 ≤ len) (hcap : len ≤ cap) :
    Calls Try.prog 25 #[.slice (some ⟨b, off, none⟩) len cap] w fun e w' => ∃ v, e = .returned (.tuple #[v, .int .i64 (openE l)]) ∧ Own w' w.heap.size v (openV l) ∧ Below w.heap.size w w' := by
  obtain ⟨n, rfl⟩ : ∃ n, len = n + 8 := ⟨len - 8, by omega⟩
  have HR := Lib.hid hr
  clear hr
  have HE : Hid (openE l = if tl (dg 0 (l.take n)) = l.drop n then 0 else 5) := by
    have h : l.length - 8 = n := by rw [HR.out.1]; omega
    show openE l = _
    unfold openE
    rw [if_neg (by rw [HR.out.1]; omega), h]
  have HV : Hid (openV l = if tl (dg 0 (l.take n)) = l.drop n then l.take n else []) := by
    have h : l.length - 8 = n := by rw [HR.out.1]; omega
    show openV l = _
    unfold openV
    rw [HE.out, h]
    split <;> simp
  have HI := Lib.hid (open_iff l n HR.out.1)
  have hN := Own.empty w
  have eB : Below w.heap.size w (w.alloc (.cells #[] 5)) := (Below.refl _ _).alloc (Nat.le_refl _) _
  have HA := Lib.hid ((HR.out.take n (by omega)).below eB)
  have EB := Lib.hid eB
  clear eB
  have HX := Lib.hid (fun x (hx : x ∈ l.take n) => HR.out.2.1 x (List.mem_of_mem_take hx))
  go_enter Try.func25, Try.ntmps25
  go_wp2_with (at_builtin; refine app_rd rfl _ _ rfl w.heap.size _ [] rfl hN (some ⟨b, off, none⟩) n cap (l.take n) rfl HA.out (fun h => by cases h) ?_ ?_ ?_)
  · simp; omega
  · exact EB.out.size
  intro v1 w1 hown1 hb1
  have HB := Lib.hid (EB.out.trans hb1)
  have hsz := HB.out.size
  clear hb1 hN
  have hown1' : Own w1 w.heap.size v1 (l.take n) := hown1
  have HL : Hid ((l.take n).length = n) := Lib.hid (by rw [List.length_take, HR.out.1]; omega)
  obtain ⟨a1, c1, hv1, hr1, hn1, _⟩ := hown1'.rd0 HX.out
  rw [HL.out] at hv1 hr1
  subst hv1
  have HO := Lib.hid hown1
  have HR1 := Lib.hid hr1
  have HN1 := Lib.hid hn1
  clear hown1 hown1' hr1 hn1
  have cv : ∀ wx, Below w.heap.size w wx → (convert 29 9 (.slice (some ⟨b, off, none⟩) (n + 8) cap)).run Try.prog wx = .ok (.string (bs l)) wx := fun wx hb => conv_rd _ _ _ _ _ (HR.out.below hb)
  have hB1 : Below w.heap.size w w1.drew := HB.out.drew
  have HT := Lib.hid (tl_byte (dg 0 (l.take n)))
  have HXT : Hid (∀ x ∈ l.take n ++ tl (dg 0 (l.take n)), 0 ≤ x ∧ x ≤ 255) := Lib.hid (fun x hx => by
    rcases List.mem_append.1 hx with g | g
    · exact HX.out x g
    · exact HT.out x g)
  have HLL : Hid ((l.take n ++ tl (dg 0 (l.take n))).length = n + 8) := Lib.hid (by rw [List.length_append, HL.out]; rfl)
  have hbe := bs_beq (l.take n ++ tl (dg 0 (l.take n))) l (fun x hx => by
    rcases List.mem_append.1 hx with g | g
    · exact HX.out x g
    · exact HT.out x g) HR.out.2.1
  rw [HI.out] at hbe
  by_cases hm : tl (dg 0 (l.take n)) = l.drop n
  · have ht : ((bs (l.take n ++ tl (dg 0 (l.take n)))).toList == (bs l).toList) = true := by rw [hbe, hm]; simp
    have HM := Lib.hid hm
    clear hbe hm
    go_wp2_with fail
    go_region_with (go_at_call 27; refine (rSeal_any a1 n c1 (l.take n) _ (HR1.out.drew) HN1.out (by omega)).mono ?_; rintro e w2 ⟨v2, rfl, hown2, hb2⟩; obtain ⟨a2, c2, hv2, hr2, _, _⟩ := hown2.rd0 HXT.out; rw [HLL.out] at hv2 hr2; subst hv2; have cv2 := conv_rd _ _ _ c2 _ hr2; have hB2 := hB1.trans (hb2.mono hB1.size))
    all_goals
      clear cv cv2
      go_wp2_with fail
      go_ret2
      exact ⟨.slice a1 n c1, by rw [HE.out, if_pos HM.out]; rfl, by rw [HV.out, if_pos HM.out]; exact Own.stays (w := w1.drew) HO.out hb2, hB2⟩
  · have ht : ((bs (l.take n ++ tl (dg 0 (l.take n)))).toList == (bs l).toList) = false := by rw [hbe]; exact beq_eq_false_iff_ne.2 hm
    have HM := Lib.hid hm
    clear hbe hm
    go_wp2_with fail
    go_region_with (go_at_call 27; refine (rSeal_any a1 n c1 (l.take n) _ (HR1.out.drew) HN1.out (by omega)).mono ?_; rintro e w2 ⟨v2, rfl, hown2, hb2⟩; obtain ⟨a2, c2, hv2, hr2, _, _⟩ := hown2.rd0 HXT.out; rw [HLL.out] at hv2 hr2; subst hv2; have cv2 := conv_rd _ _ _ c2 _ hr2; have hB2 := hB1.trans (hb2.mono hB1.size))
    all_goals
      clear cv cv2
      go_wp2_with fail
      go_ret2
      exact ⟨.slice none 0 0, by rw [HE.out, if_neg HM.out]; rfl, by rw [HV.out, if_neg HM.out]; exact ⟨rfl, .inl ⟨rfl, rfl⟩⟩, hB2⟩
end Go.Proofs.Ytdjolpclkbfeoaa
