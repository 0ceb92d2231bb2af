/- The walk of DigestParts. -/
import Derived.Test.YtdjolpclkbfeoaaLParts
namespace Go.Proofs.Ytdjolpclkbfeoaa
set_option linter.unusedVariables false
open Go.RowKit
set_option maxRecDepth 100000 in
theorem parts_out (a1 a2 a3 : Option Addr) (n1 n2 n3 c1 c2 c3 : Nat) (w : World) (m1 : n1 ≤ 9223372036854775807) (m2 : n2 ≤ 9223372036854775807) (m3 : n3 ≤ 9223372036854775807) (h : 60 < n1 ∨ (n1 ≤ 60 ∧ 60 < n2) ∨ (n1 ≤ 60 ∧ n2 ≤ 60 ∧ 60 < n3)) :
    Calls Try.prog 8 #[.slice a1 n1 c1, .slice a2 n2 c2, .slice a3 n3 c3] w fun e w' => e = .returned (.bool true) ∧ Below w.heap.size w w' := by
  rcases h with h | ⟨h1, h2⟩ | ⟨h1, h2, h3⟩
  · have q1 : (60 : Int) < (n1 : Int) := by omega
    go_enter Try.func8, Try.ntmps8
    go_wp2_with fail
    refine (awake_any _).mono ?_
    rintro e w1 ⟨rfl, hb1⟩
    go_wp2_with fail
    go_ret
    exact ⟨rfl, hb1⟩
  · have q1 : ¬ (60 : Int) < (n1 : Int) := by omega
    have q2 : (60 : Int) < (n2 : Int) := by omega
    go_enter Try.func8, Try.ntmps8
    go_wp2_with fail
    refine (awake_any _).mono ?_
    rintro e w1 ⟨rfl, hb1⟩
    go_wp2_with fail
    go_ret
    exact ⟨rfl, hb1⟩
  · have q1 : ¬ (60 : Int) < (n1 : Int) := by omega
    have q2 : ¬ (60 : Int) < (n2 : Int) := by omega
    have q3 : (60 : Int) < (n3 : Int) := by omega
    go_enter Try.func8, Try.ntmps8
    go_wp2_with fail
    refine (awake_any _).mono ?_
    rintro e w1 ⟨rfl, hb1⟩
    go_wp2_with fail
    go_ret
    exact ⟨rfl, hb1⟩
theorem joinV_of {x y : Int} {l m r : List Int} {n : Int} (hx : x = dg 0 l) (hy : y = dg 0 m) (hn : n = m.length) (hr : r = l ++ m) : joinV x y n = dg 0 r ∧ joinE x y n = 0 := by
  subst hx hy hn hr
  exact join_dg l m
set_option maxRecDepth 100000 in
set_option maxHeartbeats 1000000 in
theorem parts_in (a1 a2 a3 : Option Addr) (n1 n2 n3 c1 c2 c3 : Nat) (l1 l2 l3 : List Int) (w : World) (r1 : Rd w a1 n1 l1) (r2 : Rd w a2 n2 l2) (r3 : Rd w a3 n3 l3) (z1 : a1 = none → c1 = 0) (z2 : a2 = none → c2 = 0) (z3 : a3 = none → c3 = 0)
    (h1 : n1 ≤ 60) (h2 : n2 ≤ 60) (h3 : n3 ≤ 60) :
    Calls Try.prog 8 #[.slice a1 n1 c1, .slice a2 n2 c2, .slice a3 n3 c3] w fun e w' => e = .returned (.bool true) ∧ Below w.heap.size w w' := by
  have q1 : ¬ (60 : Int) < (n1 : Int) := by omega
  have q2 : ¬ (60 : Int) < (n2 : Int) := by omega
  have q3 : ¬ (60 : Int) < (n3 : Int) := by omega
  have R1 := Lib.hid r1
  have R2 := Lib.hid r2
  have R3 := Lib.hid r3
  have Z1 := Lib.hid z1
  have Z2 := Lib.hid z2
  have Z3 := Lib.hid z3
  have L1 := Lib.hid r1.1
  have L2 := Lib.hid r2.1
  have L3 := Lib.hid r3.1
  have hx12 := Lib.hid (fun (x : Int) (hx : x ∈ l1 ++ l2) => (List.mem_append.1 hx).elim (r1.2.1 x) (r2.2.1 x))
  have hx123 := Lib.hid (fun (x : Int) (hx : x ∈ l1 ++ l2 ++ l3) => (List.mem_append.1 hx).elim (hx12.out x) (r3.2.1 x))
  have L12 : Hid ((l1 ++ l2).length = n1 + n2) := Lib.hid (by rw [List.length_append, r1.1, r2.1])
  have L123 : Hid ((l1 ++ l2 ++ l3).length = n1 + n2 + n3) := Lib.hid (by rw [List.length_append, L12.out, r3.1])
  have J12 := Lib.hid (joinV_of (x := dg 0 l1) (y := dg 0 l2) (n := n2) (r := l1 ++ l2) rfl rfl (by rw [r2.1]) rfl)
  have J23 := Lib.hid (joinV_of (x := dg 0 l2) (y := dg 0 l3) (n := n3) (r := l2 ++ l3) rfl rfl (by rw [r3.1]) rfl)
  have JL := Lib.hid (joinV_of (x := dg 0 (l1 ++ l2)) (y := dg 0 l3) (n := n3) (r := l1 ++ l2 ++ l3) rfl rfl (by rw [r3.1]) rfl)
  have JR := Lib.hid (joinV_of (x := dg 0 l1) (y := dg 0 (l2 ++ l3)) (n := (n2 : Int) + n3) (r := l1 ++ l2 ++ l3) rfl rfl (by rw [List.length_append, r2.1, r3.1]; rfl) (by rw [List.append_assoc]))
  have MO : Hid (moreV (dg 0 (l1 ++ l2)) l3 = dg 0 (l1 ++ l2 ++ l3) ∧ moreE (dg 0 (l1 ++ l2)) = 0) := Lib.hid (by
    have hin := dg_in (l1 ++ l2) 0 ⟨by decide, by decide⟩
    unfold moreV moreE
    unfold In at hin
    rw [if_pos hin, if_pos hin, dg_append _ l3]
    exact ⟨rfl, rfl⟩)
  clear r1 r2 r3 z1 z2 z3
  generalize h12 : l1 ++ l2 = l12 at *
  generalize h23 : l2 ++ l3 = l23 at *
  generalize h123 : l12 ++ l3 = l123 at *
  have H12 := Lib.hid h12
  have H123 := Lib.hid h123
  clear h12 h23 h123
  go_enter Try.func8, Try.ntmps8
  go_wp2_with fail
  refine (awake_any _).mono ?_
  rintro e w1 ⟨rfl, b1⟩
  have hN := Own.empty w1
  have eB : Below w1.heap.size w1 (w1.alloc (.cells #[] 5)) := (Below.refl _ _).alloc (Nat.le_refl _) _
  have A1 := Lib.hid ((R1.out.below b1).below eB)
  have EB := Lib.hid eB
  have B1 := Lib.hid b1
  clear b1 eB
  go_wp2_with (at_builtin; refine app_rd rfl _ _ rfl w1.heap.size _ [] rfl hN a1 n1 c1 l1 rfl A1.out Z1.out ?_ ?_ ?_)
  · simp; have := L1.out; omega
  · exact EB.out.size
  intro v2 w2 hown2 hb2
  have B2 := Lib.hid (B1.out.trans ((EB.out.trans hb2).mono B1.out.size))
  have A2 := Lib.hid (R2.out.below B2.out)
  have s2 := Nat.le_trans EB.out.size hb2.size
  clear hb2 hN
  go_wp2_with (at_builtin; refine app_rd rfl _ _ rfl w1.heap.size _ l1 rfl hown2 a2 n2 c2 l2 rfl A2.out Z2.out ?_ s2 ?_)
  · have := L1.out; have := L2.out; omega
  intro v3 w3 hown3 hb3
  have B3 := Lib.hid (B2.out.trans (hb3.mono B1.out.size))
  have A3 := Lib.hid (R3.out.below B3.out)
  have s3 := Nat.le_trans s2 hb3.size
  rw [H12.out] at hown3
  clear hb3 hown2 s2
  go_wp2_with (at_builtin; refine app_keep rfl _ _ rfl w1.heap.size _ l12 rfl hown3 a3 n3 c3 l3 rfl A3.out Z3.out ?_ s3 ?_)
  · have := L12.out; have := L3.out; omega
  intro v4 w4 hown4 hown3' hb4
  have B4 := Lib.hid (B3.out.trans (hb4.mono B1.out.size))
  rw [H123.out] at hown4
  obtain ⟨a4, c4, rfl, r4, _⟩ := hown4.rdn hx123.out L123.out
  obtain ⟨a5, c5, rfl, r5, _⟩ := hown3'.rdn hx12.out L12.out
  have R4 := Lib.hid r4
  have R5 := Lib.hid r5
  have W4 := Lib.hid B4.out
  clear hb4 hown3 hown4 hown3' r4 r5 s3
  have HC : Hid (∀ wx, Below w4.heap.size w4 wx → ∀ (a : Option Addr) (n c : Nat) (l : List Int), Rd w4 a n l → n ≤ 1000 → Calls Try.prog 14 #[.slice a n c] wx fun e w' => e = .returned (.int .i64 (dg 0 l)) ∧ Below w4.heap.size w4 w') :=
    Lib.hid (fun wx hx a n c l hr hn => (of_any a n c l wx (hr.below hx) (by unfold maxLen; omega)).mono fun e w' ⟨he, hb⟩ => ⟨he, hx.trans (hb.mono hx.size)⟩)
  have JC : Hid (∀ wx, Below w4.heap.size w4 wx → ∀ x y n : Int, n ≤ 1000 → Calls Try.prog 15 #[.int .i64 x, .int .i64 y, .int .i64 n] wx fun e w' => e = .returned (.tuple #[.int .i64 (joinV x y n), .int .i64 (joinE x y n)]) ∧ Below w4.heap.size w4 w') :=
    Lib.hid (fun wx hx x y n hn => (Join_any x y n wx (by omega)).mono fun e w' ⟨he, hb⟩ => ⟨he, hx.trans (hb.mono hx.size)⟩)
  have Q1 := Lib.hid (R1.out.below B4.out)
  have Q2 := Lib.hid (R2.out.below B4.out)
  have Q3 := Lib.hid (R3.out.below B4.out)
  go_wp2_with fail
  refine (HC.out _ (Below.refl _ _) a4 _ c4 _ R4.out (by omega)).mono ?_
  rintro e w5 ⟨rfl, b5⟩
  go_wp2_with fail
  refine (HC.out _ b5 a1 _ c1 _ Q1.out (by omega)).mono ?_
  rintro e w6 ⟨rfl, b6⟩
  clear b5
  go_wp2_with fail
  refine (HC.out _ b6 a2 _ c2 _ Q2.out (by omega)).mono ?_
  rintro e w7 ⟨rfl, b7⟩
  clear b6
  go_wp2_with fail
  refine (JC.out _ b7 _ _ _ (by omega)).mono ?_
  rintro e w8 ⟨rfl, b8⟩
  rw [J12.out.1, J12.out.2]
  clear b7
  go_wp2_with fail
  refine (HC.out _ b8 a2 _ c2 _ Q2.out (by omega)).mono ?_
  rintro e w9 ⟨rfl, b9⟩
  clear b8
  go_wp2_with fail
  refine (HC.out _ b9 a3 _ c3 _ Q3.out (by omega)).mono ?_
  rintro e w10 ⟨rfl, b10⟩
  clear b9
  go_wp2_with fail
  refine (JC.out _ b10 _ _ _ (by omega)).mono ?_
  rintro e w11 ⟨rfl, b11⟩
  rw [J23.out.1, J23.out.2]
  clear b10
  go_wp2_with fail
  refine (HC.out _ b11 a3 _ c3 _ Q3.out (by omega)).mono ?_
  rintro e w12 ⟨rfl, b12⟩
  clear b11
  go_wp2_with fail
  refine (JC.out _ b12 _ _ _ (by omega)).mono ?_
  rintro e w13 ⟨rfl, b13⟩
  rw [JL.out.1, JL.out.2]
  clear b12
  go_wp2_with fail
  refine (HC.out _ b13 a1 _ c1 _ Q1.out (by omega)).mono ?_
  rintro e w14 ⟨rfl, b14⟩
  clear b13
  go_wp2_with fail
  refine (JC.out _ b14 _ _ _ (by omega)).mono ?_
  rintro e w15 ⟨rfl, b15⟩
  rw [JR.out.1, JR.out.2]
  clear b14
  go_wp2_with fail
  refine (HC.out _ b15 a5 _ c5 _ R5.out (by omega)).mono ?_
  rintro e w16 ⟨rfl, b16⟩
  clear b15
  go_wp2_with fail
  refine (More_any (dg 0 l12) a3 n3 c3 l3 _ (Q3.out.below b16) (by unfold maxLen; omega)).mono ?_
  rintro e w17 ⟨rfl, b17⟩
  rw [MO.out.1, MO.out.2]
  have b18 := b16.trans (b17.mono b16.size)
  clear b16 b17
  go_wp2_with fail
  refine (HC.out _ b18 a5 _ c5 _ R5.out (by omega)).mono ?_
  rintro e w19 ⟨rfl, b19⟩
  clear b18
  go_wp2_with fail
  go_ret
  exact ⟨rfl, B4.out.trans (b19.mono B4.out.size)⟩
theorem parts_walk (a1 a2 a3 : Option Addr) (n1 n2 n3 c1 c2 c3 : Nat) (l1 l2 l3 : List Int) (w : World) (r1 : Rd w a1 n1 l1) (r2 : Rd w a2 n2 l2) (r3 : Rd w a3 n3 l3) (z1 : a1 = none → c1 = 0) (z2 : a2 = none → c2 = 0) (z3 : a3 = none → c3 = 0)
    (m1 : n1 ≤ maxLen) (m2 : n2 ≤ maxLen) (m3 : n3 ≤ maxLen) :
    Calls Try.prog 8 #[.slice a1 n1 c1, .slice a2 n2 c2, .slice a3 n3 c3] w fun e w' => e = .returned (.bool true) ∧ Below w.heap.size w w' := by
  unfold maxLen at m1 m2 m3
  by_cases h : n1 ≤ 60 ∧ n2 ≤ 60 ∧ n3 ≤ 60
  · exact parts_in a1 a2 a3 n1 n2 n3 c1 c2 c3 l1 l2 l3 w r1 r2 r3 z1 z2 z3 h.1 h.2.1 h.2.2
  · exact parts_out a1 a2 a3 n1 n2 n3 c1 c2 c3 w (by omega) (by omega) (by omega) (by omega)
end Go.Proofs.Ytdjolpclkbfeoaa
