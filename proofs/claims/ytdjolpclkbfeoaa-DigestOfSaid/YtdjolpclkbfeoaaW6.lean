/- The contracts of Print, of the program and of the reference. -/
import Derived.Test.YtdjolpclkbfeoaaW5
import Derived.Test.YtdjolpclkbfeoaaHex
namespace Go.Proofs.Ytdjolpclkbfeoaa
set_option linter.unusedVariables false
open Go.RowKit

/-- A list of bytes, as a string's bytes. -/
def bs (l : List Int) : ByteArray := ⟨(l.map fun n => UInt8.ofNat n.toNat).toArray⟩
theorem foldl_push (l : List Int) : ∀ (r : ByteArray), l.foldl (fun r n => r.push (UInt8.ofNat n.toNat)) r = ⟨(r.data.toList ++ l.map fun n => UInt8.ofNat n.toNat).toArray⟩ := by
  induction l with
  | nil => intro r; simp
  | cons n l ih =>
    intro r
    rw [List.foldl_cons, ih]
    congr 1
    simp [ByteArray.push]
theorem foldl_bs (l : List Int) : l.foldl (fun r n => r.push (UInt8.ofNat n.toNat)) ByteArray.empty = bs l := by
  rw [foldl_push]; rfl
theorem info5 : (Try.prog.info? 5).map (fun i => (i.zero, i.size, i.bytes)) = some (some (.int .u8 0), 1, 1) := by kernel_rfl
theorem digit_at (x : Int) (h0 : 0 ≤ x) (h1 : x < 16) (w : World) : (Instr.index 9 (.string { data := #[48, 49, 50, 51, 52, 53, 54, 55, 56, 57, 97, 98, 99, 100, 101, 102] }) (.int .i64 x)).run Try.prog w = .ok (.int .u8 (hx x)) w := by
  have h : x = 0 ∨ x = 1 ∨ x = 2 ∨ x = 3 ∨ x = 4 ∨ x = 5 ∨ x = 6 ∨ x = 7 ∨ x = 8 ∨ x = 9 ∨ x = 10 ∨ x = 11 ∨ x = 12 ∨ x = 13 ∨ x = 14 ∨ x = 15 := by omega
  rcases h with rfl | rfl | rfl | rfl | rfl | rfl | rfl | rfl | rfl | rfl | rfl | rfl | rfl | rfl | rfl | rfl <;> rfl
theorem add_mk (b off j : Nat) : (⟨b, off, none⟩ : Addr).add j = ⟨b, off + j, none⟩ := by
  unfold Addr.add
  split <;> simp_all
theorem conv_rd (w : World) (a : Option Addr) (len cap : Nat) (l : List Int) (h : Rd w a len l) : (convert 29 9 (.slice a len cap)).run Try.prog w = .ok (.string (bs l)) w := by
  rw [run_convert_bytes_string w 29 9 5 a len cap Try.underlying29 Try.underlying5 Try.underlying9]
  cases a with
  | none =>
    have hl : len = 0 := by
      rcases Nat.eq_zero_or_pos len with g | g
      · exact g
      · obtain ⟨b, off, e, _⟩ := h.2.2 0 g; cases e
    subst hl
    obtain rfl : l = [] := List.eq_nil_of_length_eq_zero h.1
    rfl
  | some a =>
    rw [run_bytesToString w a len cap l, foldl_bs]
    rw [show len = (l.map (Value.int .u8)).length by rw [List.length_map, h.1]]
    refine run_loadCells_list _ a _ ?_
    intro j v hj
    rw [List.getElem?_map] at hj
    rcases Nat.lt_or_ge j l.length with g | g
    · obtain ⟨b, off, e, hc⟩ := h.2.2 j (by rw [← h.1]; exact g)
      cases e
      rw [List.getElem?_eq_getElem g] at hj
      rw [List.getD_eq_getElem?_getD, List.getElem?_eq_getElem g] at hc
      simp at hj hc
      subst hj
      rw [add_mk]
      exact hc
    · rw [List.getElem?_eq_none g] at hj; simp at hj
/-- A slice of the call's own that reads as the bytes xs. -/
def Own (w : World) (base : Nat) (v : Value) (xs : List Int) : Prop := w.ownsRow base 5 1 v xs.length (xs.map (Value.int .u8))
theorem app_byte {ops : Array Oper} {rest : List Oper} {o : Oper} {a : Act} {Q : Exit → Act → World → Prop} {w : World} (hgd : o.guard = none) (s x : Operand)
    (ho : o.op = .call { callee := .builtin .append, args := #[s, x], argTypes := #[29, 29] }) (base : Nat) (v : Value) (xs : List Int) (hs : a.eval s = v) (hown : Own w base v xs)
    (ad : Addr) (c : Int) (hx : a.eval x = .slice (some ad) 1 1) (hc : w.cell? ad = some (.int .u8 c)) (hlen : xs.length < 70368744177664) (hbase : base ≤ w.heap.size)
    (h : ∀ v' w', Own w' base v' (xs ++ [c]) → Below base w w' → wpList Try.prog ops Q rest (a.put o.dst v') w') : wpList Try.prog ops Q (o :: rest) a w := by
  obtain ⟨i0, hi, hz0, hz1, hz2⟩ := info_parts info5
  refine wpList_append_own w hgd s x 29 ho base 5 i0 (.int .u8 0) 1 1 Try.underlying29 hi hz0 hz1 hz2 rfl (by decide) v xs.length _ hs hown ad 1 1 [.int .u8 c] hx rfl ?_ ?_ ?_ ?_ hbase ?_
  · intro j u hj
    cases j with
    | zero => simp at hj; subst hj; simpa [Addr.add] using hc
    | succ j => simp at hj
  · intro u hu; simp at hu; subst hu; rfl
  · unfold maxLen; omega
  · omega
  · intro v' w' h1 h2 _
    refine h v' w' ?_ ?_
    · unfold Own
      rw [List.length_append, List.map_append]
      exact h1
    · refine (Below.refl _ _).grown h2 hbase ?_
      intro k hk
      obtain ⟨_, h | ⟨g, cap, cur, hv, hg, _⟩⟩ := hown
      · rw [h.1] at hk; simp [Value.ownBlock] at hk
      · rw [hv] at hk; simp [Value.ownBlock] at hk; omega
theorem Own.rd {w : World} {base : Nat} {v : Value} {xs : List Int} (h : Own w base v xs) (hb : ∀ x ∈ xs, 0 ≤ x ∧ x ≤ 255) : ∃ a c, v = .slice a xs.length c ∧ Rd w a xs.length xs := by
  obtain ⟨_, ⟨rfl, h0⟩ | ⟨g, cap, cur, rfl, _, hh, hn, _, hs, ht⟩⟩ := h
  · rw [h0]
    obtain rfl : xs = [] := List.eq_nil_of_length_eq_zero h0
    exact ⟨none, 0, rfl, rfl, by simp, fun i hi => absurd hi (by omega)⟩
  · refine ⟨_, _, rfl, rfl, hb, fun i hi => ⟨g, 0, rfl, ?_⟩⟩
    have e : cur[i]? = some (Value.int .u8 (xs.getD i 0)) := by
      rw [← Array.getElem?_toList]
      have : (cur.toList.take (xs.length * 1))[i]? = cur.toList[i]? := by rw [List.getElem?_take, if_pos (by omega)]
      rw [← this, ht, List.getElem?_map, List.getD_eq_getElem?_getD, List.getElem?_eq_getElem hi]
      rfl
    simp [World.cell?, hh, e]
theorem Own.alloc {w : World} {base : Nat} {v : Value} {xs : List Int} (h : Own w base v xs) (o : Obj) : Own (w.alloc o) base v xs := World.ownsRow.alloc h o
set_option maxRecDepth 100000 in
theorem print_ok (d : Int) (w : World) (h1 : 0 ≤ d) (h2 : d < 2305843009213693951) :
    Calls Try.prog 13 #[.int .i64 d] w fun e w' => e = .returned (.tuple #[.string (bs (hexL d 16)), .int .i64 0]) ∧ Below w.heap.size w w' := by
  have ht : decide (0 ≤ d ∧ d < 2305843009213693951) = true := decide_eq_true ⟨h1, h2⟩
  obtain ⟨i0, hi, hz0, hz1, hz2⟩ := info_parts info5
  have m15 := and_15
  go_enter Try.func13, Try.ntmps13
  go_wp2_with fail
  refine (in_any d _).mono ?_
  rintro e w1 ⟨rfl, rfl⟩
  go_wp2_with fail
  go_loopw [4, 5] (fun v i wr => ∃ (k : Nat) (xs : List Int), k ≤ 16 ∧ i = .int .i64 ((k : Int) - 1) ∧ Own wr w.heap.size v xs ∧ Hid (hexL d 16 = xs ++ hexL d k ∧ xs.length + k = 16) ∧ Below w.heap.size w wr) (fun _ i _ => (intOf i + 1).toNat)
  case atStart => exact ⟨16, [], by omega, rfl, ⟨rfl, .inl ⟨rfl, rfl⟩⟩, ⟨rfl, rfl⟩, Below.refl _ _⟩
  case round =>
    obtain ⟨k, xs, hk, rfl, hown, H, hB⟩ := hrel
    cases k with
    | succ k =>
      have hsh : (2 : Int) ^ (4 * k) = 16 ^ k := by rw [Int.pow_mul]; rfl
      have hd : ∀ wx, (Instr.index 9 (.string { data := #[48, 49, 50, 51, 52, 53, 54, 55, 56, 57, 97, 98, 99, 100, 101, 102] }) (.int .i64 (d / 16 ^ k % 16))).run Try.prog wx = .ok (.int .u8 (hx (d / 16 ^ k % 16))) wx := digit_at _ (by omega) (by omega)
      obtain ⟨c, hcd⟩ : ∃ c, hx (d / 16 ^ k % 16) = c := ⟨_, rfl⟩
      rw [hcd] at hd
      have hcd := Lib.hid hcd
      go_wp2_with (at_builtin; refine app_byte rfl _ _ rfl w.heap.size _ xs rfl (hown.alloc _) ⟨wr.heap.size, 0, none⟩ c rfl ?c1 ?c2 ?c3 ?_)
      case c1 => simp [go_sem]
      case c2 => have := H.out.2; omega
      case c3 => have := hB.size; rw [World.size_alloc]; omega
      intro v' w' hown' hb'
      go_wp2_with fail
      go_roundw
      case rel => exact ⟨k, xs ++ [c], by omega, rfl, hown', ⟨by rw [H.out.1, List.append_assoc, hexL, hcd.out]; rfl, by have := H.out.2; simp; omega⟩, (hB.alloc hB.size _).trans hb'⟩
      case measure => simp [intOf] <;> omega
    | zero =>
      have hx : hexL d 16 = xs := by rw [H.out.1]; simp [hexL]
      obtain ⟨a, c, rfl, hr⟩ := hown.rd (fun x h => hexL_byte d 16 x (by rw [hx]; exact h))
      have hcv := conv_rd wr a xs.length c xs hr
      have HX := Lib.hid hx
      clear hx hr hown
      go_wp2_with fail
      go_ret2
      exact ⟨by rw [HX.out]; rfl, hB⟩
set_option maxRecDepth 100000 in
theorem Print_any (d : Int) (w : World) :
    Calls Try.prog 13 #[.int .i64 d] w fun e w' => e = .returned (.tuple #[.string (bs (printV d)), .int .i64 (printE d)]) ∧ Below w.heap.size w w' := by
  unfold printV printE
  by_cases h : 0 ≤ d ∧ d < 2305843009213693951
  · rw [if_pos h, if_pos h]
    exact print_ok d w h.1 h.2
  · rw [if_neg h, if_neg h]
    have ht : decide (0 ≤ d ∧ d < 2305843009213693951) = false := decide_eq_false h
    go_enter Try.func13, Try.ntmps13
    go_wp2_with fail
    refine (in_any d _).mono ?_
    rintro e w1 ⟨rfl, rfl⟩
    go_wp2_with fail
    go_ret2
    exact ⟨rfl, Below.refl _ _⟩
theorem bs_size (l : List Int) : (bs l).size = l.length := by simp [bs, ByteArray.size]
theorem bs_append (l m : List Int) : bs l ++ bs m = bs (l ++ m) := by
  apply ByteArray.ext
  simp [bs]
theorem digit_cut (x : Int) (h0 : 0 ≤ x) (h1 : x < 16) (w : World) : (Instr.slice 9 (.string { data := #[48, 49, 50, 51, 52, 53, 54, 55, 56, 57, 97, 98, 99, 100, 101, 102] }) (some (.int .i64 x)) (some (.int .i64 (x + 1))) none).run Try.prog w = .ok (.string (bs [hx x])) w := by
  have h : x = 0 ∨ x = 1 ∨ x = 2 ∨ x = 3 ∨ x = 4 ∨ x = 5 ∨ x = 6 ∨ x = 7 ∨ x = 8 ∨ x = 9 ∨ x = 10 ∨ x = 11 ∨ x = 12 ∨ x = 13 ∨ x = 14 ∨ x = 15 := by omega
  rcases h with rfl | rfl | rfl | rfl | rfl | rfl | rfl | rfl | rfl | rfl | rfl | rfl | rfl | rfl | rfl | rfl <;> rfl
set_option maxRecDepth 100000 in
theorem rPrint_any (d : Int) (w : World) :
    Calls Try.prog 19 #[.int .i64 d] w fun e w' => e = .returned (.tuple #[.string (bs (printV d)), .int .i64 (printE d)]) ∧ w = w' := by
  unfold printV printE
  by_cases h : 0 ≤ d ∧ d < 2305843009213693951
  · rw [if_pos h, if_pos h]
    obtain ⟨h1, h2⟩ := h
    have q1 : ¬ d < 0 := by omega
    have q2 : ¬ 2305843009213693951 ≤ d := by omega
    go_enter Try.func19, Try.ntmps19
    go_wp2_with fail
    go_loop [0, 4, 5] (fun x s i => ∃ (k : Nat) (y : Int), k ≤ 16 ∧ i = .int .i64 k ∧ x = .int .i64 y ∧ s = .string (bs (hexL d k)) ∧ 0 ≤ y ∧ y < 2305843009213693951 ∧ Hid (y = d / 16 ^ k)) (fun _ _ i => (16 - intOf i).toNat)
    case atStart => exact ⟨0, d, by omega, rfl, rfl, rfl, h1, h2, show d = d / 16 ^ 0 by simp⟩
    case round =>
      obtain ⟨k, y, hk, rfl, rfl, rfl, hy1, hy2, H⟩ := hrel
      by_cases hlt : k < 16
      · have hc := digit_cut (y % 16) (by omega) (by omega)
        have ha := bs_append [hx (y % 16)] (hexL d k)
        have hz : ¬ (9223372036854775807 < (bs [hx (y % 16)]).size + (bs (hexL d k)).size) := by rw [bs_size, bs_size, hexL_length]; simp; omega
        go_wp2_with fail
        refine ⟨⟨k + 1, y / 16, by omega, by go_num, rfl, by rw [hexL, ← H.out], by omega, by omega, ?_⟩, by simp [intOf]; omega⟩
        show y / 16 = _
        rw [H.out, Int.pow_succ, ← Int.ediv_ediv_of_nonneg (Int.pow_nonneg (by decide))]
      · go_wp2_with fail
        go_ret2
        obtain rfl : k = 16 := by omega
        exact ⟨rfl, rfl⟩
  · rw [if_neg h, if_neg h]
    rcases not_in h with h1 | ⟨h1, h2⟩
    all_goals
      go_enter Try.func19, Try.ntmps19
      go_wp2_with fail
      go_ret2
      exact ⟨rfl, rfl⟩
end Go.Proofs.Ytdjolpclkbfeoaa
