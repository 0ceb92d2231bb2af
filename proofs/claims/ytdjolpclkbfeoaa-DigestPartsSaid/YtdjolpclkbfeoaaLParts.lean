/- The walk of DigestParts: a slice that is appended to keeps what it reads as. -/
import Derived.Test.YtdjolpclkbfeoaaLSeals
import Derived.ArgAppend
namespace Go.Proofs.Ytdjolpclkbfeoaa
set_option linter.unusedVariables false
open Go.RowKit
theorem Own.prefix_of {w : World} {base g n cap n' : Nat} {xs ys : List Int} (h : Own w base (.slice (some ⟨g, 0, none⟩) n' cap) (xs ++ ys)) (hn : xs.length = n) : Own w base (.slice (some ⟨g, 0, none⟩) n cap) xs := by
  obtain ⟨h0, ⟨h1, _⟩ | ⟨g', cap', cur, hv, hg, hh, hc, hm, hs, ht⟩⟩ := h
  · cases h1
  · rw [Value.slice.injEq] at hv
    obtain ⟨h1, h2, h3⟩ := hv
    cases h1
    subst h3
    have hl : (xs ++ ys).length = xs.length + ys.length := List.length_append
    refine ⟨by rw [List.length_map, Nat.mul_one], .inr ⟨g, cap, cur, by rw [hn], hg, hh, by omega, hm, hs, ?_⟩⟩
    have := congrArg (List.take xs.length) ht
    rw [List.take_take, List.map_append, List.take_left' (by rw [List.length_map])] at this
    rw [← this]
    congr 1
    omega
theorem run_app_keep (w : World) (ty : TypeId) (base : Nat) (v : Value) (xs : List Int) (hown : Own w base v xs) (ao : Option Addr) (m c : Nat) (l : List Int) (hr : Rd w ao m l) (hn : ao = none → c = 0)
    (hlen : xs.length + l.length < 70368744177664) (hbase : base ≤ w.heap.size) :
    ∃ v' w', (Builtin.append_ #[29, 29] ty #[v, .slice ao m c]).run Try.prog w = .ok v' w' ∧ Own w' base v' (xs ++ l) ∧ Own w' base v xs ∧ Below base w w' := by
  by_cases h0 : ao = none ∨ v = .slice none 0 0
  · obtain ⟨v', w', h1, h2, h3⟩ := run_app w ty base v xs hown ao m c l hr hn hlen hbase
    refine ⟨v', w', h1, h2, ?_, h3⟩
    rcases h0 with rfl | rfl
    · obtain rfl := hn rfl
      have hm : m = 0 := by
        rcases Nat.eq_zero_or_pos m with g | g
        · exact g
        · obtain ⟨b, off, e, _⟩ := hr.2.2 0 g; cases e
      subst hm
      obtain ⟨i0, hi, hz0, hz1, hz2⟩ := info_parts info5
      have hrun := run_append_owned_none (P := Try.prog) (w := w) base 29 ty 5 i0 1 Try.underlying29 hi v _ _ hown
      rw [hrun] at h1
      cases h1
      exact hown
    · obtain ⟨_, ⟨_, h0⟩ | ⟨g, cap, cur, hv, _⟩⟩ := hown
      · obtain rfl : xs = [] := List.eq_nil_of_length_eq_zero h0
        exact ⟨rfl, .inl ⟨rfl, rfl⟩⟩
      · cases hv
  · obtain ⟨i0, hi, hz0, hz1, hz2⟩ := info_parts info5
    cases ao with
    | none => exact absurd (.inl rfl) h0
    | some ad =>
      have hnews : ∀ j u, (l.map (Value.int .u8))[j]? = some u → w.cell? (ad.add j) = some u := by
        intro j u hj
        rw [List.getElem?_map] at hj
        rcases Nat.lt_or_ge j l.length with g | g
        · obtain ⟨b, off, e, hc⟩ := hr.2.2 j (by rw [← hr.1]; exact g)
          cases e
          rw [List.getElem?_eq_getElem g] at hj
          rw [List.getD_eq_getElem?_getD, List.getElem?_eq_getElem g] at hc
          simp at hj hc
          subst hj
          rw [add_mk]
          exact hc
        · rw [List.getElem?_eq_none g] at hj; simp at hj
      have hone : ∀ u ∈ l.map (Value.int .u8), u.oneCell' = true := by intro u hu; obtain ⟨x, _, rfl⟩ := List.mem_map.1 hu; rfl
      have hl1 := hr.1
      obtain ⟨h1, ⟨h2, _⟩ | ⟨g, cap, cur, hv, hg, hh, hc, hcm, hcs, hct⟩⟩ := id hown
      · exact absurd (.inr h2) h0
      · subst hv
        by_cases hroom : xs.length + m ≤ cap
        · obtain ⟨w', r1, r2, r3⟩ := run_append_own_spare (P := Try.prog) w base 29 ty 5 i0 1 Try.underlying29 hi hz1 g xs.length cap _ hown ad m c (l.map (Value.int .u8)) (by rw [List.length_map]; omega) hnews hone hroom
          have hO : Own w' base (.slice (some ⟨g, 0, none⟩) (xs.length + m) cap) (xs ++ l) := by
            unfold Own
            rw [List.length_append, List.map_append, hl1]
            exact r2
          refine ⟨_, w', r1, hO, hO.prefix_of rfl, (Below.refl _ _).grown r3 hbase ?_⟩
          intro k hk
          cases hk
          exact hg
        · obtain ⟨v', w', r1, r2, r3⟩ := run_append_arg_grows (P := Try.prog) w 29 ty 5 i0 (.int .u8 0) 1 1 Try.underlying29 hi hz0 hz1 hz2 rfl (by decide) ⟨g, 0, none⟩ xs.length cap (xs.map (Value.int .u8)) (by rw [List.length_map]; omega)
            (by
              intro j u hj
              rw [List.getElem?_map] at hj
              rcases Nat.lt_or_ge j xs.length with q | q
              · rw [List.getElem?_eq_getElem q] at hj
                have := hown.cell rfl j q
                rw [List.getD_eq_getElem?_getD, List.getElem?_eq_getElem q] at this
                simp at hj this
                subst hj
                rw [add_mk, Nat.zero_add]
                exact this
              · rw [List.getElem?_eq_none q] at hj; simp at hj)
            ad m c (l.map (Value.int .u8)) (by rw [List.length_map]; omega) hnews (by omega) (by unfold maxLen; omega) (by omega)
          refine ⟨v', w', r1, ?_, ?_, (Below.refl _ _).grown r3 hbase (fun k hk => by cases hk)⟩
          · unfold Own
            rw [List.length_append, List.map_append, hl1]
            exact Own.mono (xs := xs ++ l) (by unfold Own; rw [List.length_append, List.map_append, hl1]; exact r2) hbase |> fun h => by unfold Own at h; rwa [List.length_append, List.map_append, hl1] at h
          · exact hown.stays ((Below.refl _ _).grown r3 (Nat.le_refl _) (fun k hk => by cases hk))
theorem app_keep {ops : Array Oper} {rest : List Oper} {o : Oper} {a : Act} {Q : Exit → Act → World → Prop} {w : World} (hgd : o.guard = none) (s x : Operand)
    (ho : o.op = .call { callee := .builtin .append, args := #[s, x], argTypes := #[29, 29] }) (base : Nat) (v : Value) (xs : List Int) (hs : a.eval s = v) (hown : Own w base v xs)
    (ao : Option Addr) (m c : Nat) (l : List Int) (hx : a.eval x = .slice ao m c) (hr : Rd w ao m l) (hn : ao = none → c = 0) (hlen : xs.length + l.length < 70368744177664) (hbase : base ≤ w.heap.size)
    (h : ∀ v' w', Own w' base v' (xs ++ l) → Own w' base v xs → Below base w w' → wpList Try.prog ops Q rest (a.put o.dst v') w') : wpList Try.prog ops Q (o :: rest) a w := by
  obtain ⟨v', w', h1, h2, h2', h3⟩ := run_app_keep w o.type base v xs hown ao m c l hr hn hlen hbase
  refine wpList_plain hgd fun K hK => ?_
  unfold Oper.wp
  simp [execOp, ho, resolve, invoke, builtin, hs, hx, h1, Result.andThen]
  exact hK _ _ (h v' w' h2 h2' h3)
/-- What the law compares. -/
theorem join_dg (l m : List Int) : joinV (dg 0 l) (dg 0 m) m.length = dg 0 (l ++ m) ∧ joinE (dg 0 l) (dg 0 m) m.length = 0 := by
  have h1 := dg_in l 0 ⟨by decide, by decide⟩
  have h2 := dg_in m 0 ⟨by decide, by decide⟩
  have hok : JoinOk (dg 0 l) (dg 0 m) m.length := ⟨h1, h2, by omega⟩
  unfold joinV joinE
  rw [if_pos hok, if_pos hok, Int.toNat_natCast, dg_append, dg_lin m _ h1]
  exact ⟨rfl, rfl⟩
end Go.Proofs.Ytdjolpclkbfeoaa
