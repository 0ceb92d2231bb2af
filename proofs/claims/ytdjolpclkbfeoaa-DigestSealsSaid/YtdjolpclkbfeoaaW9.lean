/- The bytes of a digest; appending; comparing. -/
import Derived.Test.YtdjolpclkbfeoaaW8
import Derived.Deep.RegionLaw
import Derived.Laws.AppendOwnNone
namespace Go.Proofs.Ytdjolpclkbfeoaa
set_option linter.unusedVariables false
open Go.RowKit

/-- append of a slice that reads as l onto a slice of the call's own. -/
theorem run_app (w : World) (ty : TypeId) (base : Nat) (v : Value) (xs : List Int) (hown : Own w base v xs) (ao : Option Addr) (m c : Nat) (l : List Int) (hr : Rd w ao m l) (hn : ao = none → c = 0)
    (hlen : xs.length + l.length < 70368744177664) (hbase : base ≤ w.heap.size) :
    ∃ v' w', (Builtin.append_ #[29, 29] ty #[v, .slice ao m c]).run Try.prog w = .ok v' w' ∧ Own w' base v' (xs ++ l) ∧ Below base w w' := by
  obtain ⟨i0, hi, hz0, hz1, hz2⟩ := info_parts info5
  cases ao with
  | none =>
    obtain rfl := hn rfl
    have hm : m = 0 := by
      rcases Nat.eq_zero_or_pos m with g | g
      · exact g
      · obtain ⟨b, off, e, _⟩ := hr.2.2 0 g; cases e
    subst hm
    obtain rfl : l = [] := List.eq_nil_of_length_eq_zero hr.1
    refine ⟨v, w, run_append_owned_none (P := Try.prog) (w := w) base 29 ty 5 i0 1 Try.underlying29 hi v _ _ hown, ?_, Below.refl _ _⟩
    rw [List.append_nil]
    exact hown
  | some ad =>
    obtain ⟨v', w', h1, h2, h3, _⟩ := run_append_own (P := Try.prog) w base 29 ty 5 i0 (.int .u8 0) 1 1 Try.underlying29 hi hz0 hz1 hz2 rfl (by decide) v _ _ hown ad m c (l.map (Value.int .u8)) (by rw [List.length_map, hr.1]; omega)
      (by
        intro j u hj
        rw [List.getElem?_map] at hj
        rcases Nat.lt_or_ge j l.length with g | g
        · obtain ⟨b, off, e, hc⟩ := hr.2.2 j (by rw [← hr.1]; exact g)
          cases e
          rw [List.getElem?_eq_getElem g] at hj
          rw [List.getD_eq_getElem?_getD, List.getElem?_eq_getElem g] at hc
          simp at hj hc
          subst hj
          rw [add_mk]
          exact hc
        · rw [List.getElem?_eq_none g] at hj; simp at hj)
      (by intro u hu; obtain ⟨x, _, rfl⟩ := List.mem_map.1 hu; rfl) (by have := hr.1; unfold maxLen; omega) (by have := hr.1; omega) hbase
    refine ⟨v', w', h1, ?_, ?_⟩
    · unfold Own
      rw [List.length_append, List.map_append, hr.1]
      exact h2
    · refine (Below.refl _ _).grown h3 hbase ?_
      intro k hk
      obtain ⟨_, h | ⟨g, cap, cur, hv, hg, _⟩⟩ := hown
      · rw [h.1] at hk; simp [Value.ownBlock] at hk
      · rw [hv] at hk; simp [Value.ownBlock] at hk; omega
theorem app_rd {ops : Array Oper} {rest : List Oper} {o : Oper} {a : Act} {Q : Exit → Act → World → Prop} {w : World} (hgd : o.guard = none) (s x : Operand)
    (ho : o.op = .call { callee := .builtin .append, args := #[s, x], argTypes := #[29, 29] }) (base : Nat) (v : Value) (xs : List Int) (hs : a.eval s = v) (hown : Own w base v xs)
    (ao : Option Addr) (m c : Nat) (l : List Int) (hx : a.eval x = .slice ao m c) (hr : Rd w ao m l) (hn : ao = none → c = 0) (hlen : xs.length + l.length < 70368744177664) (hbase : base ≤ w.heap.size)
    (h : ∀ v' w', Own w' base v' (xs ++ l) → Below base w w' → wpList Try.prog ops Q rest (a.put o.dst v') w') : wpList Try.prog ops Q (o :: rest) a w := by
  obtain ⟨v', w', h1, h2, h3⟩ := run_app w o.type base v xs hown ao m c l hr hn hlen hbase
  refine wpList_plain hgd fun K hK => ?_
  unfold Oper.wp
  simp [execOp, ho, resolve, invoke, builtin, hs, hx, h1, Result.andThen]
  exact hK _ _ (h v' w' h2 h3)
theorem step_app {ops : Array Oper} {o : Oper} {a : Act} {K : Act → World → Prop} {Q : Exit → Act → World → Prop} {w : World} {E : Prop} (hgd : o.guard = none) (s x : Operand)
    (ho : o.op = .call { callee := .builtin .append, args := #[s, x], argTypes := #[29, 29] }) (base : Nat) (v : Value) (xs : List Int) (hs : a.eval s = v) (hown : Own w base v xs)
    (ao : Option Addr) (m c : Nat) (l : List Int) (hx : a.eval x = .slice ao m c) (hr : Rd w ao m l) (hn : ao = none → c = 0) (hlen : xs.length + l.length < 70368744177664) (hbase : base ≤ w.heap.size)
    (h : ∀ v' w', Own w' base v' (xs ++ l) → Below base w w' → K (a.put o.dst v') w') : if Region.wanted o (yielded ops a.tmps) = true then Oper.wp Try.prog o a w K Q else E := by
  have hw : Region.wanted o (yielded ops a.tmps) = true := by simp [Region.wanted, hgd]
  rw [if_pos hw]
  obtain ⟨v', w', h1, h2, h3⟩ := run_app w o.type base v xs hown ao m c l hr hn hlen hbase
  unfold Oper.wp
  simp [execOp, ho, resolve, invoke, builtin, hs, hx, h1, Result.andThen]
  exact h v' w' h2 h3
/-- The eight bytes of a digest. -/
def tl (d : Int) : List Int := [d / 72057594037927936 % 256, d / 281474976710656 % 256, d / 1099511627776 % 256, d / 4294967296 % 256, d / 16777216 % 256, d / 65536 % 256, d / 256 % 256, d % 256]
set_option maxRecDepth 100000 in
theorem tail_any (d : Int) (w : World) (h1 : 0 ≤ d) (h2 : d < 2305843009213693951) :
    Calls Try.prog 34 #[.int .i64 d] w fun e w' => e = .returned (.agg #[.int .u8 (d / 72057594037927936 % 256), .int .u8 (d / 281474976710656 % 256), .int .u8 (d / 1099511627776 % 256), .int .u8 (d / 4294967296 % 256), .int .u8 (d / 16777216 % 256), .int .u8 (d / 65536 % 256), .int .u8 (d / 256 % 256), .int .u8 (d % 256)]) ∧ Below w.heap.size w w' := by
  go_enter Try.func34, Try.ntmps34
  go_wp2_with fail
  refine wp_loop_rounds 9 ?_
  iterate 9 (rw [rounds_succ]; go_wp2_with fail)
  exact bodyPost_ret (v := .agg #[.int .u8 (d / 72057594037927936 % 256), .int .u8 (d / 281474976710656 % 256), .int .u8 (d / 1099511627776 % 256), .int .u8 (d / 4294967296 % 256), .int .u8 (d / 16777216 % 256), .int .u8 (d / 65536 % 256), .int .u8 (d / 256 % 256), .int .u8 (d % 256)]) (by simp [results, Try.results34, go_sem]; omega) rfl ⟨rfl, by go_grown⟩
theorem bs_beq (l l' : List Int) (h1 : ∀ x ∈ l, 0 ≤ x ∧ x ≤ 255) (h2 : ∀ x ∈ l', 0 ≤ x ∧ x ≤ 255) : ((bs l).toList == (bs l').toList) = (l == l') := by
  by_cases h : l = l'
  · subst h; simp
  · have hne : (bs l).toList ≠ (bs l').toList := fun g => h (by
      have : bs l = bs l' := by
        rw [ByteArray.toList_eq, ByteArray.toList_eq] at g
        exact ByteArray.ext (Array.toList_inj.1 g)
      rw [← nb_bs l h1, ← nb_bs l' h2, this])
    rw [beq_eq_false_iff_ne.2 h, beq_eq_false_iff_ne.2 hne]
set_option maxRecDepth 100000 in
theorem same_any (a : Option Addr) (m c : Nat) (l : List Int) (a' : Option Addr) (m' c' : Nat) (l' : List Int) (w : World) (h1 : Rd w a m l) (h2 : Rd w a' m' l') :
    Calls Try.prog 22 #[.slice a m c, .slice a' m' c'] w fun e w' => e = .returned (.bool (l == l')) ∧ w = w' := by
  have e1 := conv_rd w a m c l h1
  have e2 := conv_rd w a' m' c' l' h2
  go_enter Try.func22, Try.ntmps22
  go_wp2_with fail
  go_ret
  refine ⟨?_, rfl⟩
  have := bs_beq l l' h1.2.1 h2.2.1
  rw [← this]; rfl

/-- A slice of a prefix, or of what follows it. -/
theorem Rd.take {w : World} {a : Option Addr} {len : Nat} {l : List Int} (h : Rd w a len l) (n : Nat) (hn : n ≤ len) : Rd w a n (l.take n) := by
  refine ⟨by rw [List.length_take, h.1]; omega, fun x hx => h.2.1 x (List.mem_of_mem_take hx), fun i hi => ?_⟩
  obtain ⟨b, off, e, hc⟩ := h.2.2 i (by omega)
  refine ⟨b, off, e, ?_⟩
  rw [hc, List.getD_eq_getElem?_getD, List.getD_eq_getElem?_getD, List.getElem?_take, if_pos hi]
theorem Rd.drop {w : World} {b off : Nat} {len : Nat} {l : List Int} (h : Rd w (some ⟨b, off, none⟩) len l) (n : Nat) (hn : n ≤ len) : Rd w (some ⟨b, off + n, none⟩) (len - n) (l.drop n) := by
  refine ⟨by rw [List.length_drop, h.1], fun x hx => h.2.1 x (List.mem_of_mem_drop hx), fun i hi => ?_⟩
  obtain ⟨b', off', e, hc⟩ := h.2.2 (n + i) (by omega)
  cases e
  refine ⟨b, off + n, rfl, ?_⟩
  rw [Nat.add_assoc, hc, List.getD_eq_getElem?_getD, List.getD_eq_getElem?_getD, List.getElem?_drop]
theorem Rd.keep {w w' : World} {B b off len : Nat} {l : List Int} (h : Rd w (some ⟨b, off, none⟩) len l) (hb : Below B w w') (hlt : b < B) : Rd w' (some ⟨b, off, none⟩) len l :=
  ⟨h.1, h.2.1, fun i hi => let ⟨b', off', e, hc⟩ := h.2.2 i hi; ⟨b', off', e, by cases e; rw [hb.cell hlt]; exact hc⟩⟩
theorem Rd.lt {w : World} {b off len : Nat} {l : List Int} (h : Rd w (some ⟨b, off, none⟩) len l) (h0 : 0 < len) : b < w.heap.size := by
  obtain ⟨b', off', e, hc⟩ := h.2.2 0 h0
  cases e
  exact cell_lt hc
theorem Rd.nil (w : World) (a : Option Addr) : Rd w a 0 [] := ⟨rfl, by simp, fun i hi => absurd hi (by omega)⟩
theorem Own.drewN {w : World} {base : Nat} {v : Value} {xs : List Int} (h : Own w base v xs) (n : Nat) : Own (w.drewN n) base v xs := h
theorem Own.empty (w : World) : Own (w.alloc (.cells #[] 5)) w.heap.size (.slice (some ⟨w.heap.size, 0, none⟩) 0 0) [] :=
  ⟨rfl, .inr ⟨w.heap.size, 0, #[], rfl, Nat.le_refl _, by show (w.heap.push _)[w.heap.size]? = _; simp, Nat.le_refl _, by unfold maxLen; omega, rfl, rfl⟩⟩
theorem Own.mono {w : World} {base base' : Nat} {v : Value} {xs : List Int} (h : Own w base v xs) (hb : base' ≤ base) : Own w base' v xs := by
  obtain ⟨h0, h | ⟨g, cap, cur, hv, hg, r⟩⟩ := h
  · exact ⟨h0, .inl h⟩
  · exact ⟨h0, .inr ⟨g, cap, cur, hv, Nat.le_trans hb hg, r⟩⟩
theorem Own.drew {w : World} {base : Nat} {v : Value} {xs : List Int} (h : Own w base v xs) : Own w.drew base v xs := h
theorem Rd.drew {w : World} {a : Option Addr} {len : Nat} {l : List Int} (h : Rd w a len l) : Rd w.drew a len l := h
theorem Rd.drewN {w : World} {a : Option Addr} {len : Nat} {l : List Int} (h : Rd w a len l) (n : Nat) : Rd (w.drewN n) a len l := h
theorem Rd.row {w : World} {b : Nat} {l : List Int} {t : TypeId} {m : Nat × Nat} (h : w.heap[b]? = some (.cells (l.map (Value.int .u8)).toArray t m)) (hl : ∀ x ∈ l, 0 ≤ x ∧ x ≤ 255) : Rd w (some ⟨b, 0, none⟩) l.length l :=
  ⟨rfl, hl, fun i hi => ⟨b, 0, rfl, by simp [World.cell?, h, List.getD_eq_getElem?_getD, List.getElem?_eq_getElem hi]⟩⟩
theorem tl_byte (d : Int) : ∀ x ∈ tl d, 0 ≤ x ∧ x ≤ 255 := by
  intro x hx
  simp only [tl, List.mem_cons, List.not_mem_nil, or_false] at hx
  omega
set_option maxRecDepth 100000 in
/-- Seal: the payload, and the bytes of its digest. -/
theorem seal_any (a : Option Addr) (len cap : Nat) (l : List Int) (w : World) (hr : Rd w a len l) (hn : a = none → cap = 0) (hlen : len < 1048576) :
    Calls Try.prog 20 #[.slice a len cap] w fun e w' => ∃ v, e = .returned v ∧ Own w' w.heap.size v (l ++ tl (dg 0 l)) ∧ Below w.heap.size w w' := by
  have hin := dg_in l 0 ⟨by decide, by decide⟩
  obtain ⟨hi1, hi2⟩ := hin
  have HR := Lib.hid hr
  have HN := Lib.hid hn
  clear hr hn
  go_enter Try.func20, Try.ntmps20
  go_wp2_with fail
  refine (of_any a len cap l _ HR.out (by unfold maxLen; omega)).mono ?_
  rintro e w1 ⟨rfl, hb⟩
  have HTB := Lib.hid (tl_byte (dg 0 l))
  generalize hdd : dg 0 l = d at *
  have HD := Lib.hid hdd
  clear hdd
  go_wp2_with fail
  refine (tail_any d _ hi1 hi2).mono ?_
  rintro e w2 ⟨rfl, hb2⟩
  go_wp2_with fail
  have hT : Rd (w2.alloc (.cells ((tl d).map (Value.int .u8)).toArray 50)) (some ⟨w2.heap.size, 0, none⟩) 8 (tl d) := Rd.row (t := 50) (m := (0, 0)) (by show (w2.heap.push _)[w2.heap.size]? = _; simp) HTB.out
  have hB : Below w.heap.size w (w2.alloc (.cells ((tl d).map (Value.int .u8)).toArray 50)) := (hb.trans (hb2.mono hb.size)).alloc (by have := hb.size; have := hb2.size; omega) _
  have hA := HR.out.below hB
  change Rd (w2.alloc (.cells #[.int .u8 (d / 72057594037927936 % 256), .int .u8 (d / 281474976710656 % 256), .int .u8 (d / 1099511627776 % 256), .int .u8 (d / 4294967296 % 256), .int .u8 (d / 16777216 % 256), .int .u8 (d / 65536 % 256), .int .u8 (d / 256 % 256), .int .u8 (d % 256)] 50)) _ _ _ at hT
  change Below w.heap.size w (w2.alloc (.cells #[.int .u8 (d / 72057594037927936 % 256), .int .u8 (d / 281474976710656 % 256), .int .u8 (d / 1099511627776 % 256), .int .u8 (d / 4294967296 % 256), .int .u8 (d / 16777216 % 256), .int .u8 (d / 65536 % 256), .int .u8 (d / 256 % 256), .int .u8 (d % 256)] 50)) at hB
  change Rd (w2.alloc (.cells #[.int .u8 (d / 72057594037927936 % 256), .int .u8 (d / 281474976710656 % 256), .int .u8 (d / 1099511627776 % 256), .int .u8 (d / 4294967296 % 256), .int .u8 (d / 16777216 % 256), .int .u8 (d / 65536 % 256), .int .u8 (d / 256 % 256), .int .u8 (d % 256)] 50)) _ _ _ at hA
  generalize (w2.alloc (.cells #[.int .u8 (d / 72057594037927936 % 256), .int .u8 (d / 281474976710656 % 256), .int .u8 (d / 1099511627776 % 256), .int .u8 (d / 4294967296 % 256), .int .u8 (d / 16777216 % 256), .int .u8 (d / 65536 % 256), .int .u8 (d / 256 % 256), .int .u8 (d % 256)] 50)) = w3 at *
  have HT := Lib.hid hT
  have HA := Lib.hid hA
  have HB := Lib.hid hB
  have hN := Own.empty w3
  have hsz := hB.size
  clear hT hA hB
  have rN : Own (w3.alloc (.cells #[] 5)).drew w3.heap.size (.slice (some ⟨w3.heap.size, 0, none⟩) 0 0) [] := hN.drew
  have eB : Below w3.heap.size w3 (w3.alloc (.cells #[] 5)).drew := ((Below.refl _ _).alloc (Nat.le_refl _) _).drew
  have rA : Rd (w3.alloc (.cells #[] 5)).drew a len l := HA.out.below eB
  have rT : Rd (w3.alloc (.cells #[] 5)).drew (some ⟨w2.heap.size, 0, none⟩) 8 (tl d) := HT.out.below eB
  have rs : ([] : List Int).length + l.length < 70368744177664 := by have := rA.1; simp; omega
  have rb : w3.heap.size ≤ (w3.alloc (.cells #[] 5)).drew.heap.size := eB.size
  have RS := Lib.hid (show ([] ++ l : List Int).length + (tl d).length < 70368744177664 by have := rA.1; simp [tl]; omega)
  have RN2 := Lib.hid (show (some (⟨w2.heap.size, 0, none⟩ : Addr)) = none → (8 : Nat) = 0 from fun h => by cases h)
  have rB : Below w.heap.size w (w3.alloc (.cells #[] 5)).drew := HB.out.trans (eB.mono hsz)
  have h8 : w2.heap.size < w3.heap.size := HT.out.lt (by decide)
  clear hN
  go_region_law (first | (refine step_app rfl (.tmp 7) (.tmp 8) rfl w3.heap.size _ [] rfl rN a len cap l rfl rA HN.out rs rb ?_; intro v4 w4 hown4 hb4; have hT4 := rT.keep hb4 h8; have hs4 := Nat.le_trans rb hb4.size) | (refine step_app rfl (.tmp 9) (.tmp 10) rfl w3.heap.size _ _ rfl hown4 _ _ _ _ rfl hT4 RN2.out RS.out hs4 ?_; intro v5 w5 hown5 hb5))
  all_goals go_wp2_with fail
  all_goals go_ret
  exact ⟨v5, rfl, by rw [HD.out]; exact hown5.mono hsz, rB.trans ((hb4.trans hb5).mono hsz)⟩

/-- A list of bytes between the kinds of ends. -/
theorem Own.rd0 {w : World} {base : Nat} {v : Value} {xs : List Int} (h : Own w base v xs) (hb : ∀ x ∈ xs, 0 ≤ x ∧ x ≤ 255) : ∃ a c, v = .slice a xs.length c ∧ Rd w a xs.length xs ∧ (a = none → c = 0) ∧ (∀ x, a = some x → base ≤ x.block) := by
  obtain ⟨a, c, hv, hr⟩ := h.rd hb
  refine ⟨a, c, hv, hr, ?_, ?_⟩
  · intro ha
    obtain ⟨_, ⟨h1, h0⟩ | ⟨g, cap, cur, h1, _⟩⟩ := h
    · rw [hv, Value.slice.injEq] at h1; exact h1.2.2
    · rw [hv, ha, Value.slice.injEq] at h1; cases h1.1
  · intro x hx
    obtain ⟨_, ⟨h1, h0⟩ | ⟨g, cap, cur, h1, hg, _⟩⟩ := h
    · rw [hv, hx, Value.slice.injEq] at h1; cases h1.1
    · rw [hv, hx, Value.slice.injEq] at h1; cases h1.1; exact hg
/-- What Open says. -/
def openE (l : List Int) : Int := if l.length < 8 then 4 else if tl (dg 0 (l.take (l.length - 8))) = l.drop (l.length - 8) then 0 else 5
def openV (l : List Int) : List Int := if openE l = 0 then l.take (l.length - 8) else []
set_option maxRecDepth 100000 in
theorem open_short (a : Option Addr) (len cap : Nat) (l : List Int) (w : World) (hr : Rd w a len l) (hlen : len < 8) :
    Calls Try.prog 21 #[.slice a len cap] w fun e w' => e = .returned (.tuple #[.slice none 0 0, .int .i64 4]) ∧ Below w.heap.size w w' := by
  have HR := Lib.hid hr
  clear hr
  go_enter Try.func21, Try.ntmps21
  go_wp2_with fail
  go_ret2
  exact ⟨rfl, Below.refl _ _⟩
set_option maxRecDepth 100000 in
theorem open_long (b off len cap : Nat) (l : List Int) (w : World) (hr : Rd w (some ⟨b, off, none⟩) len l) (hlen : len < 1048576) (h8 : 8 ≤ len) (hcap : len ≤ cap) :
    Calls Try.prog 21 #[.slice (some ⟨b, off, none⟩) len cap] w fun e w' => ∃ v, e = .returned (.tuple #[v, .int .i64 (openE l)]) ∧ Own w' w.heap.size v (openV l) ∧ Below w.heap.size w w' := by
  obtain ⟨n, rfl⟩ : ∃ n, len = n + 8 := ⟨len - 8, by omega⟩
  have hin := dg_in (l.take n) 0 ⟨by decide, by decide⟩
  obtain ⟨hi1, hi2⟩ := hin
  have HR := Lib.hid hr
  clear hr
  have hRT := HR.out.take n (by omega)
  have HRT := Lib.hid hRT
  clear hRT
  go_enter Try.func21, Try.ntmps21
  go_wp2_with fail
  refine (of_any (some ⟨b, off, none⟩) n cap (l.take n) _ HRT.out (by unfold maxLen; omega)).mono ?_
  rintro e w1 ⟨rfl, hb⟩
  have HTB := Lib.hid (tl_byte (dg 0 (l.take n)))
  generalize hdd : dg 0 (l.take n) = d at *
  have HD := Lib.hid hdd
  clear hdd
  go_wp2_with fail
  refine (tail_any d _ hi1 hi2).mono ?_
  rintro e w2 ⟨rfl, hb2⟩
  go_wp2_with fail
  have hT : Rd (w2.alloc (.cells ((tl d).map (Value.int .u8)).toArray 50)) (some ⟨w2.heap.size, 0, none⟩) 8 (tl d) := Rd.row (t := 50) (m := (0, 0)) (by show (w2.heap.push _)[w2.heap.size]? = _; simp) HTB.out
  have hB : Below w.heap.size w (w2.alloc (.cells ((tl d).map (Value.int .u8)).toArray 50)) := (hb.trans (hb2.mono hb.size)).alloc (by have := hb.size; have := hb2.size; omega) _
  have hA := HR.out.below hB
  change Rd (w2.alloc (.cells #[.int .u8 (d / 72057594037927936 % 256), .int .u8 (d / 281474976710656 % 256), .int .u8 (d / 1099511627776 % 256), .int .u8 (d / 4294967296 % 256), .int .u8 (d / 16777216 % 256), .int .u8 (d / 65536 % 256), .int .u8 (d / 256 % 256), .int .u8 (d % 256)] 50)) _ _ _ at hT
  change Below w.heap.size w (w2.alloc (.cells #[.int .u8 (d / 72057594037927936 % 256), .int .u8 (d / 281474976710656 % 256), .int .u8 (d / 1099511627776 % 256), .int .u8 (d / 4294967296 % 256), .int .u8 (d / 16777216 % 256), .int .u8 (d / 65536 % 256), .int .u8 (d / 256 % 256), .int .u8 (d % 256)] 50)) at hB
  change Rd (w2.alloc (.cells #[.int .u8 (d / 72057594037927936 % 256), .int .u8 (d / 281474976710656 % 256), .int .u8 (d / 1099511627776 % 256), .int .u8 (d / 4294967296 % 256), .int .u8 (d / 16777216 % 256), .int .u8 (d / 65536 % 256), .int .u8 (d / 256 % 256), .int .u8 (d % 256)] 50)) _ _ _ at hA
  generalize (w2.alloc (.cells #[.int .u8 (d / 72057594037927936 % 256), .int .u8 (d / 281474976710656 % 256), .int .u8 (d / 1099511627776 % 256), .int .u8 (d / 4294967296 % 256), .int .u8 (d / 16777216 % 256), .int .u8 (d / 65536 % 256), .int .u8 (d / 256 % 256), .int .u8 (d % 256)] 50)) = w3 at *
  have hsz := hB.size
  have c1 : ∀ nq, (convert 29 9 (.slice (some ⟨w2.heap.size, 0, none⟩) 8 8)).run Try.prog (w3.drewN nq) = .ok (.string (bs (tl d))) (w3.drewN nq) := fun nq => conv_rd _ _ _ _ _ (hT.drewN nq)
  have c2 : ∀ nq, (convert 29 9 (.slice (some ⟨b, off + n, none⟩) 8 (cap - n))).run Try.prog (w3.drewN nq) = .ok (.string (bs (l.drop n))) (w3.drewN nq) := fun nq => conv_rd _ _ _ _ _ (by have := (hA.drop n (by omega)).drewN nq; rwa [show n + 8 - n = 8 by omega] at this)
  have HB := Lib.hid hB
  have HA := Lib.hid hA
  clear hB hT hA
  have HE : Hid (openE l = if tl d = l.drop n then 0 else 5) := by
    have h : l.length - 8 = n := by rw [HR.out.1]; omega
    show openE l = _
    unfold openE
    rw [if_neg (by rw [HR.out.1]; omega), h, HD.out]
  have HV : Hid (openV l = if tl d = l.drop n then l.take n else []) := by
    have h : l.length - 8 = n := by rw [HR.out.1]; omega
    show openV l = _
    unfold openV
    rw [HE.out, h]
    split <;> simp
  have hbe := bs_beq (tl d) (l.drop n) HTB.out (fun x hx => HR.out.2.1 x (List.mem_of_mem_drop hx))
  by_cases hm : tl d = l.drop n
  · have ht : ((bs (tl d)).toList == (bs (l.drop n)).toList) = true := by rw [hbe, hm]; simp
    have HM := Lib.hid hm
    clear hbe hm
    go_quiet (fail)
    have hN := (Own.empty (w3.drewN nq)).mono (show w.heap.size ≤ (w3.drewN nq).heap.size from hsz)
    have eB : Below w3.heap.size (w3.drewN nq) ((w3.drewN nq).alloc (.cells #[] 5)) := (Below.refl w3.heap.size (w3.drewN nq)).alloc (show w3.heap.size ≤ w3.heap.size from Nat.le_refl _) _
    have hA2 := ((HA.out.take n (by omega)).drewN nq).below eB
    have HA2 := Lib.hid hA2
    clear hA2
    have hB2 : Below w.heap.size w ((w3.drewN nq).alloc (.cells #[] 5)) := (below_drewN HB.out nq).trans (eB.mono hsz)
    have HB2 := Lib.hid hB2
    clear hB2
    go_wp2_with (at_builtin; refine app_rd rfl _ _ rfl w.heap.size _ [] rfl hN (some ⟨b, off, none⟩) n cap (l.take n) rfl HA2.out (fun h => by cases h) ?_ ?_ ?_)
    · simp; omega
    · simp; omega
    · intro v5 w5 hown5 hb5
      go_wp2_with fail
      go_ret2
      exact ⟨v5, by rw [HE.out, if_pos HM.out]; rfl, by rw [HV.out, if_pos HM.out]; exact hown5, HB2.out.trans hb5⟩
  · have ht : ((bs (tl d)).toList == (bs (l.drop n)).toList) = false := by rw [hbe]; exact beq_eq_false_iff_ne.2 hm
    have HM := Lib.hid hm
    clear hbe hm
    go_quiet (fail)
    go_wp2_with fail
    go_ret2
    exact ⟨.slice none 0 0, by rw [HE.out, if_neg HM.out]; rfl, by rw [HV.out, if_neg HM.out]; exact ⟨rfl, .inl ⟨rfl, rfl⟩⟩, below_drewN HB.out nq⟩
end Go.Proofs.Ytdjolpclkbfeoaa
