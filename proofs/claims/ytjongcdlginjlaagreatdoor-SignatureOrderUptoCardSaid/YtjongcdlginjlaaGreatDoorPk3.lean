/- The claim's texts, part 3: contracts of the functions that the statement reaches, and what they say of the data. -/
import Derived.Test.YtjongcdlginjlaaGreatDoorPk2
set_option maxRecDepth 100000
set_option linter.all false
namespace Go.Proofs.YtjongcdlginjlaaGreatDoor
open Go.RowKit
theorem elemBnd : ElemOf Tryz.prog 77 103 RBnd.size 112 := ⟨by kernel_rfl, by kernel_rfl⟩
def zeroL (x : Lin) : Bool := x.const == 0 && x.terms.length == 0
def bare (kind : Int) (name : Str) : Bnd := ⟨kind, name, ⟨0, []⟩, ⟨⟨#[]⟩, []⟩, ⟨#[]⟩⟩
def addV (l : List Bnd) (kind : Int) (name : Str) : List Bnd := if 0 ≤ findB l kind name then l else l ++ [bare kind name]
theorem ref11_zero {x : Lin} {S : Blk} {cs : List Value} {w : World} (h : RLin.rd S w cs x) :
    Calls Tryz.prog 164 #[.agg cs.toArray] w fun e w' => e = .returned (.bool (zeroL x)) ∧ Below w.heap.size w w' := by
  obtain ⟨t, rfl, a, c, rfl, hs⟩ := h; have hm := hs.small
  have HN : Hid (zeroL x = (x.const == 0 && x.terms.length == 0)) := Lib.hid rfl
  clear hs
  generalize x.terms.length = n at *
  have B0 : Hid (Below w.heap.size w (w.alloc (.cells #[.int .i64 x.const, .slice a n c] 65))) := Lib.hid ((Below.refl _ _).alloc (by simp <;> omega) _)
  have xa0 : (w.alloc (.cells #[.int .i64 x.const, .slice a n c] 65)).cell? ⟨w.heap.size, 0, none⟩ = some (.int .i64 x.const) := by simp [go_sem]
  have xa1 : (w.alloc (.cells #[.int .i64 x.const, .slice a n c] 65)).cell? ⟨w.heap.size, 1, none⟩ = some (.slice a n c) := by simp [go_sem]
  have hW0 : (w.alloc (.cells #[.int .i64 x.const, .slice a n c] 65)).heap.size = w.heap.size + 1 := by simp
  have HE : Hid (((n : Int) == 0) = (n == 0)) := Lib.hid (by rw [Bool.eq_iff_iff, beq_iff_eq, beq_iff_eq]; omega)
  by_cases h0 : x.const = 0
  · have q : (x.const == 0) = true := beq_iff_eq.2 h0
    clear h0
    go_enter Tryz.func164, Tryz.ntmps164
    go_wp2_with fail
    go_ret
    exact ⟨by rw [HN.out, q, Bool.true_and, ← HE.out]; rfl, B0.out⟩
  · have q : (x.const == 0) = false := beq_eq_false_iff_ne.2 h0
    clear h0
    go_enter Tryz.func164, Tryz.ntmps164
    go_wp2_with fail
    go_ret
    exact ⟨by rw [HN.out, q]; rfl, B0.out⟩
theorem ref11_AddVar {S : Blk} {w : World} {base : Nat} {v : Value} {l : List Bnd} (h : Own RBnd 103 S w base v l) (hbase : base ≤ w.heap.size) (hl : l.length ≤ 1000000) (kind : Int) (name : Str) :
    Calls Tryz.prog 126 #[v, .int .i64 kind, .string name] w fun e w' => (∃ v', e = .returned v' ∧ Own RBnd 103 S w' base v' (addV l kind name)) ∧ Below base w w' := by
  obtain ⟨a, c, rfl, hsl⟩ := h.sl; have HO := Lib.hid h; have HC := Lib.hid (ref11_Find l a _ c w hsl kind name)
  have HN : Hid (addV l kind name = if 0 ≤ findB l kind name then l else l ++ [bare kind name]) := Lib.hid rfl
  clear h hsl
  generalize findB l kind name = d at *
  by_cases hd : 0 ≤ d
  · have HF : Hid (addV l kind name = l) := Lib.hid (by rw [HN.out, if_pos hd])
    go_enter Tryz.func126, Tryz.ntmps126
    go_wp2_with fail
    refine (HC.out).mono ?_
    rintro e _ ⟨rfl, rfl⟩
    go_wp2_with fail
    go_ret
    exact ⟨⟨_, rfl, by rw [HF.out]; exact HO.out⟩, Below.refl _ _⟩
  · have HF : Hid (addV l kind name = l ++ [bare kind name]) := Lib.hid (by rw [HN.out, if_neg hd])
    have hd2 : d < 0 := by omega
    go_enter Tryz.func126, Tryz.ntmps126
    go_wp2_with fail
    refine HC.out.mono ?_
    rintro e _ ⟨rfl, rfl⟩
    go_wp2_with (at_builtin; refine app_one elemBnd rfl _ _ rfl base _ _ rfl (HO.out.alloc _) _ (bare kind name) [.int .i64 kind, .string name, .int .i64 0, .slice none 0 0, .string ⟨#[]⟩, .slice none 0 0, .string ⟨#[]⟩] rfl ⟨_, _, rfl, ⟨none, 0, rfl, Sl.empty _ _ _⟩, ⟨none, 0, rfl, Sl.empty _ _ _⟩⟩ (cellsN 103 (by (simp only [drew_heap, alloc_heap, Array.getElem?_push, Array.size_push]; simp))) (by omega) (by unfold maxLen; omega) (by simp; omega) ?_; intro v9 w9 hown9 hb9 hk9)
    go_ret
    exact ⟨⟨_, rfl, by rw [HF.out]; exact hown9⟩, ((Below.refl _ _).alloc hbase _).trans hb9⟩
end Go.Proofs.YtjongcdlginjlaaGreatDoor
namespace Go.Proofs.YtjongcdlginjlaaGreatDoor
open Go.RowKit
def addAll (l : List Bnd) (ns : List Str) : List Bnd := ns.foldl (fun l v => addV l 1 v) l
def rowV (s : Shp) : List Bnd := if s.row.toList.isEmpty then [] else addV [] 2 s.row
def varsS (s : Shp) : List Bnd := addAll (rowV s) (s.dims.flatMap varsL)
theorem addV_len (l : List Bnd) (k : Int) (v : Str) : (addV l k v).length ≤ l.length + 1 := by
  unfold addV
  split
  · omega
  · rw [List.length_append]; exact Nat.le_refl _
theorem addAll_len (ns : List Str) : ∀ l : List Bnd, (addAll l ns).length ≤ l.length + ns.length := by
  induction ns with
  | nil => intro l; exact Nat.le_refl _
  | cons n ns ih =>
    intro l
    have h1 := ih (addV l 1 n); have h2 := addV_len l 1 n
    show (addAll (addV l 1 n) ns).length ≤ _
    rw [List.length_cons]; omega
theorem addAll_app (l : List Bnd) (a b : List Str) : addAll l (a ++ b) = addAll (addAll l a) b := by unfold addAll; rw [List.foldl_append]
theorem valid_terms {x : Lin} (h : validLin x = true) : x.terms.length ≤ 12 := by
  unfold validLin at h
  rw [Bool.and_eq_true] at h
  exact of_decide_eq_true h.2
theorem valid_dims {s : Shp} (h : validShp s = true) : s.dims.length ≤ 6 ∧ ∀ x ∈ s.dims, validLin x = true := by
  unfold validShp at h
  rw [Bool.and_eq_true, Bool.and_eq_true] at h
  refine ⟨of_decide_eq_true h.2.1, fun x hx => ?_⟩
  have := h.2.2
  rw [Bool.not_eq_true'] at this
  have := (List.any_eq_false.1 this) x hx
  simpa using this
theorem flat_len (l : List Lin) (h : ∀ x ∈ l, validLin x = true) : (l.flatMap varsL).length ≤ l.length * 12 := by
  induction l with
  | nil => simp
  | cons x l ih =>
    rw [List.flatMap_cons, List.length_append, List.length_cons, Nat.add_mul]
    have h1 := ih (fun y hy => h y (List.mem_cons_of_mem _ hy))
    have h2 := valid_terms (h x (List.mem_cons_self ..))
    have h3 : (varsL x).length = x.terms.length := by unfold varsL; rw [List.length_map]
    omega
theorem rowV_len (s : Shp) : (rowV s).length ≤ 1 := by
  unfold rowV
  split
  · exact Nat.zero_le _
  · exact addV_len [] 2 s.row
def varsV (s : Shp) : List Bnd := if validShp s then varsS s else []
theorem ref11_Vars {S : Blk} {s : Shp} {cs : List Value} {w : World} (h : RShp.rd S w cs s) (hz : szH s) :
    Calls Tryz.prog 167 #[.agg cs.toArray] w fun e w' => (∃ v, e = .returned v ∧ Own RBnd 103 (fun _ => False) w' w.heap.size v (varsV s)) ∧ Below w.heap.size w w' := by
  have HV : Hid (∀ W, Below w.heap.size w W → Calls Tryz.prog 115 #[.agg cs.toArray] W fun e w' => e = .returned (.bool (validShp s)) ∧ Below W.heap.size W w') :=
    Lib.hid (fun W hW => ref11_Valid (RShp.below h hW) hz)
  obtain ⟨t, rfl, a, c, rfl, hs⟩ := h; have hm := hs.small; have HS0 := Lib.hid hs; clear hs
  have hL : s.dims.length = s.dims.length := rfl
  generalize hL2 : s.dims.length = n at *
  have HL := Lib.hid hL2; clear hL hL2
  have B0 : Hid (Below w.heap.size w (w.alloc (.cells #[.string s.row, .slice a n c] 37))) := Lib.hid ((Below.refl _ _).alloc (by simp <;> omega) _)
  have xa0 : (w.alloc (.cells #[.string s.row, .slice a n c] 37)).cell? ⟨w.heap.size, 0, none⟩ = some (.string s.row) := by simp [go_sem]
  have xa1 : (w.alloc (.cells #[.string s.row, .slice a n c] 37)).cell? ⟨w.heap.size, 1, none⟩ = some (.slice a n c) := by simp [go_sem]
  have hW0 : (w.alloc (.cells #[.string s.row, .slice a n c] 37)).heap.size = w.heap.size + 1 := by simp
  by_cases hv : validShp s = true
  case neg =>
    have hv : validShp s = false := by simpa using hv
    rw [hv] at HV
    have HF : Hid (varsV s = []) := Lib.hid (by unfold varsV; rw [hv]; rfl)
    go_enter Tryz.func167, Tryz.ntmps167
    go_wp2_with fail
    refine (HV.out _ B0.out).mono ?_
    rintro e w1 ⟨rfl, hb⟩
    go_wp2_with fail
    go_ret
    exact ⟨⟨_, rfl, by rw [HF.out]; exact Own.nil _ _ _ _ _⟩, B0.out.trans (hb.mono B0.out.size)⟩
  have HD := Lib.hid (valid_dims hv)
  have HF : Hid (varsV s = varsS s) := Lib.hid (by unfold varsV; rw [hv]; rfl)
  rw [hv] at HV; clear hv
  go_enter Tryz.func167, Tryz.ntmps167
  go_wp2_with fail
  refine (HV.out _ B0.out).mono ?_
  rintro e w1 ⟨rfl, hb⟩
  have y0 := cellB xa0 _ hb; have y1 := cellB xa1 _ hb; have HW := Lib.hid (B0.out.trans (hb.mono B0.out.size)); have HS := Lib.hid (HS0.out.below HW.out); clear xa0 xa1
  -- behind the row
  by_cases he : s.row.toList.isEmpty = true
  · have HR : Hid (rowV s = []) := Lib.hid (by unfold rowV; rw [he]; rfl)
    go_wp2_with fail
    go_loopw [3, 4] (fun v i wr => ∃ k : Nat, k ≤ n ∧ i = .int .i64 k ∧ Hid (Own RBnd 103 (fun _ => False) wr w1.heap.size v (addAll (rowV s) ((s.dims.take k).flatMap varsL))) ∧ Below w1.heap.size w1 wr) (fun _ i _ => n - (intOf i).toNat)
    case atStart => exact ⟨0, Nat.zero_le _, rfl, Lib.hid (by rw [HR.out]; exact Own.nil _ _ _ _ _), Below.refl _ _⟩
    case round =>
      obtain ⟨k, hk, rfl, HO, hB⟩ := hrel; have d1 := cellB y1 _ hB
      by_cases hlt : k < n
      · obtain ⟨b, off, rfl, hbW, _⟩ := HS.out.form k hlt
        have HK : Hid (k < s.dims.length) := Lib.hid (by rw [HL.out]; exact hlt)
        have HR := Lib.hid (HS.out.below hB); have HX := Lib.hid (valid_terms (HD.out.2 _ (getD_mem HK.out)))
        have HNext : Hid ((s.dims.take (k + 1)).flatMap varsL = (s.dims.take k).flatMap varsL ++ varsL (s.dims.getD k default)) := Lib.hid (by rw [take_one HK.out, List.flatMap_append]; simp)
        have HLen : Hid ((addAll (rowV s) ((s.dims.take k).flatMap varsL)).length ≤ 100) := Lib.hid (by
          have q1 := addAll_len ((s.dims.take k).flatMap varsL) (rowV s); have q2 := rowV_len s
          have q3 := flat_len (s.dims.take k) (fun x hx => HD.out.2 x (List.mem_of_mem_take hx))
          have q4 := HD.out.1; rw [List.length_take] at q3
          omega)
        obtain ⟨t, hr, hd, c0, c1⟩ := HS.out.lin k hlt; obtain ⟨ta, tc, rfl, hts⟩ := hd; have HT := Lib.hid hts; have hmt := hts.small; clear hr hts c0
        generalize s.dims.getD k default = x at *
        generalize hl0 : addAll (rowV s) ((s.dims.take k).flatMap varsL) = l0 at *
        have HL0 := Lib.hid hl0; clear hl0
        generalize hXL : x.terms.length = m at *
        have HXL := Lib.hid hXL; clear hXL
        go_wp2_with fail
        go_loopw [3, 5] (fun v i wr2 => ∃ j : Nat, j ≤ m ∧ i = .int .i64 j ∧ Hid (Own RBnd 103 (fun _ => False) wr2 w1.heap.size v (addAll l0 ((varsL x).take j))) ∧ Below w1.heap.size w1 wr2) (fun _ i _ => m - (intOf i).toNat)
        case atStart => exact ⟨0, Nat.zero_le _, rfl, HO, hB⟩
        case round =>
          obtain ⟨j, hj, rfl, HO2, hB2⟩ := hrel; have e1 := cellB y1 _ hB2; have g1 := cellB c1 _ hB2
          by_cases hlj : j < m
          · obtain ⟨b2, off2, rfl, hbW2, _⟩ := HT.out.form j hlj
            have HT2 := Lib.hid (HT.out.below hB2); obtain ⟨f0, f1⟩ := HT2.out.coef j hlj
            have HKj : Hid (j < x.terms.length) := Lib.hid (by rw [HXL.out]; exact hlj)
            have HStep : Hid (addAll l0 ((varsL x).take (j + 1)) = addV (addAll l0 ((varsL x).take j)) 1 (x.terms.getD j default).v) := Lib.hid (by
              unfold varsL
              rw [← List.map_take, ← List.map_take, take_one HKj.out, List.map_append, addAll_app]; rfl)
            have HLen2 : Hid ((addAll l0 ((varsL x).take j)).length ≤ 1000000) := Lib.hid (by
              have q1 := addAll_len ((varsL x).take j) l0; have q2 := HLen.out; rw [List.length_take] at q1; have q3 := HX.out; have q4 := HXL.out
              omega)
            have HC := Lib.hid (ref11_AddVar HO2.out hB2.size HLen2.out 1 (x.terms.getD j default).v)
            generalize x.terms.getD j default = y at *
            go_wp2_with fail
            refine HC.out.mono ?_
            rintro e w3 ⟨⟨v3, rfl, hown3⟩, hb3⟩
            go_wp2_with fail
            go_roundw
            case rel => exact ⟨j + 1, by omega, by go_num, Lib.hid (by rw [HStep.out]; exact hown3), hB2.trans hb3⟩
            case measure => simp [intOf]; omega
          · have HEnd : Hid (addAll l0 ((varsL x).take j) = addAll l0 (varsL x)) := Lib.hid (by
              rw [List.take_of_length_le]; unfold varsL; rw [List.length_map, HXL.out]; omega)
            go_wp2_with fail
            go_roundw
            case rel => exact ⟨k + 1, by omega, by go_num, Lib.hid (by rw [HNext.out, addAll_app, HL0.out, ← HEnd.out]; exact HO2.out), hB2⟩
            case measure => simp [intOf]; omega
      · have HAll : Hid (s.dims.take k = s.dims) := Lib.hid (List.take_of_length_le (by rw [HL.out]; omega))
        go_wp2_with fail
        go_ret
        exact ⟨⟨_, rfl, by rw [HF.out]; unfold varsS; have := HO.out.lower HW.out.size; rwa [HAll.out] at this⟩, HW.out.trans (hB.mono HW.out.size)⟩
  · have he : s.row.toList.isEmpty = false := by simpa using he
    have HR : Hid (rowV s = addV [] 2 s.row) := Lib.hid (by unfold rowV; rw [he]; rfl)
    have HC0 := Lib.hid (ref11_AddVar (Own.nil RBnd 103 (fun _ => False) w1 w1.heap.size) (Nat.le_refl _) (by decide) 2 s.row)
    go_wp2_with fail
    refine HC0.out.mono ?_
    rintro e w2 ⟨⟨v2, rfl, hown0⟩, hb0⟩
    go_wp2_with fail
    go_loopw [3, 4] (fun v i wr => ∃ k : Nat, k ≤ n ∧ i = .int .i64 k ∧ Hid (Own RBnd 103 (fun _ => False) wr w1.heap.size v (addAll (rowV s) ((s.dims.take k).flatMap varsL))) ∧ Below w1.heap.size w1 wr) (fun _ i _ => n - (intOf i).toNat)
    case atStart => exact ⟨0, Nat.zero_le _, rfl, Lib.hid (by rw [HR.out]; exact hown0), hb0⟩
    case round =>
      obtain ⟨k, hk, rfl, HO, hB⟩ := hrel; have d1 := cellB y1 _ hB
      by_cases hlt : k < n
      · obtain ⟨b, off, rfl, hbW, _⟩ := HS.out.form k hlt
        have HK : Hid (k < s.dims.length) := Lib.hid (by rw [HL.out]; exact hlt)
        have HR := Lib.hid (HS.out.below hB); have HX := Lib.hid (valid_terms (HD.out.2 _ (getD_mem HK.out)))
        have HNext : Hid ((s.dims.take (k + 1)).flatMap varsL = (s.dims.take k).flatMap varsL ++ varsL (s.dims.getD k default)) := Lib.hid (by rw [take_one HK.out, List.flatMap_append]; simp)
        have HLen : Hid ((addAll (rowV s) ((s.dims.take k).flatMap varsL)).length ≤ 100) := Lib.hid (by
          have q1 := addAll_len ((s.dims.take k).flatMap varsL) (rowV s); have q2 := rowV_len s
          have q3 := flat_len (s.dims.take k) (fun x hx => HD.out.2 x (List.mem_of_mem_take hx))
          have q4 := HD.out.1; rw [List.length_take] at q3
          omega)
        obtain ⟨t, hr, hd, c0, c1⟩ := HS.out.lin k hlt; obtain ⟨ta, tc, rfl, hts⟩ := hd; have HT := Lib.hid hts; have hmt := hts.small; clear hr hts c0
        generalize s.dims.getD k default = x at *
        generalize hl0 : addAll (rowV s) ((s.dims.take k).flatMap varsL) = l0 at *
        have HL0 := Lib.hid hl0; clear hl0
        generalize hXL : x.terms.length = m at *
        have HXL := Lib.hid hXL; clear hXL
        go_wp2_with fail
        go_loopw [3, 5] (fun v i wr2 => ∃ j : Nat, j ≤ m ∧ i = .int .i64 j ∧ Hid (Own RBnd 103 (fun _ => False) wr2 w1.heap.size v (addAll l0 ((varsL x).take j))) ∧ Below w1.heap.size w1 wr2) (fun _ i _ => m - (intOf i).toNat)
        case atStart => exact ⟨0, Nat.zero_le _, rfl, HO, hB⟩
        case round =>
          obtain ⟨j, hj, rfl, HO2, hB2⟩ := hrel; have e1 := cellB y1 _ hB2; have g1 := cellB c1 _ hB2
          by_cases hlj : j < m
          · obtain ⟨b2, off2, rfl, hbW2, _⟩ := HT.out.form j hlj
            have HT2 := Lib.hid (HT.out.below hB2); obtain ⟨f0, f1⟩ := HT2.out.coef j hlj
            have HKj : Hid (j < x.terms.length) := Lib.hid (by rw [HXL.out]; exact hlj)
            have HStep : Hid (addAll l0 ((varsL x).take (j + 1)) = addV (addAll l0 ((varsL x).take j)) 1 (x.terms.getD j default).v) := Lib.hid (by
              unfold varsL
              rw [← List.map_take, ← List.map_take, take_one HKj.out, List.map_append, addAll_app]; rfl)
            have HLen2 : Hid ((addAll l0 ((varsL x).take j)).length ≤ 1000000) := Lib.hid (by
              have q1 := addAll_len ((varsL x).take j) l0; have q2 := HLen.out; rw [List.length_take] at q1; have q3 := HX.out; have q4 := HXL.out
              omega)
            have HC := Lib.hid (ref11_AddVar HO2.out hB2.size HLen2.out 1 (x.terms.getD j default).v)
            generalize x.terms.getD j default = y at *
            go_wp2_with fail
            refine HC.out.mono ?_
            rintro e w3 ⟨⟨v3, rfl, hown3⟩, hb3⟩
            go_wp2_with fail
            go_roundw
            case rel => exact ⟨j + 1, by omega, by go_num, Lib.hid (by rw [HStep.out]; exact hown3), hB2.trans hb3⟩
            case measure => simp [intOf]; omega
          · have HEnd : Hid (addAll l0 ((varsL x).take j) = addAll l0 (varsL x)) := Lib.hid (by
              rw [List.take_of_length_le]; unfold varsL; rw [List.length_map, HXL.out]; omega)
            go_wp2_with fail
            go_roundw
            case rel => exact ⟨k + 1, by omega, by go_num, Lib.hid (by rw [HNext.out, addAll_app, HL0.out, ← HEnd.out]; exact HO2.out), hB2⟩
            case measure => simp [intOf]; omega
      · have HAll : Hid (s.dims.take k = s.dims) := Lib.hid (List.take_of_length_le (by rw [HL.out]; omega))
        go_wp2_with fail
        go_ret
        exact ⟨⟨_, rfl, by rw [HF.out]; unfold varsS; have := HO.out.lower HW.out.size; rwa [HAll.out] at this⟩, HW.out.trans (hB.mono HW.out.size)⟩
end Go.Proofs.YtjongcdlginjlaaGreatDoor
namespace Go.Proofs.YtjongcdlginjlaaGreatDoor
open Go.RowKit
def varsTy (t : Typ) : List Bnd := if validTyp t then (if elemVarB t.elem then addV (varsV t.shape) 3 t.elem else varsV t.shape) else []
theorem varsV_len (s : Shp) : (varsV s).length ≤ 100 := by
  unfold varsV
  split
  · next h =>
    have q1 := addAll_len (s.dims.flatMap varsL) (rowV s); have q2 := rowV_len s; have q3 := valid_dims h; have q4 := flat_len s.dims q3.2; have q5 := q3.1
    unfold varsS
    omega
  · exact Nat.zero_le _
theorem ref12_TypeVars {S : Blk} {x : Typ} {cs : List Value} {w : World} (h : RTyp.rd S w cs x) (hz : szT x) :
    Calls Tryz.prog 125 #[.agg cs.toArray] w fun e w' => (∃ v, e = .returned v ∧ Own RBnd 103 (fun _ => False) w' w.heap.size v (varsTy x)) ∧ Below w.heap.size w w' := by
  have HV : Hid (∀ W, Below w.heap.size w W → Calls Tryz.prog 66 #[.agg cs.toArray] W fun e w' => e = .returned (.bool (validTyp x)) ∧ Below W.heap.size W w') :=
    Lib.hid (fun W hW => ref12_Valid (RTyp.below h hW) hz)
  obtain ⟨t, rfl, a, c, rfl, hs⟩ := h
  have hez : x.elem.size ≤ 281474976710656 := Nat.le_trans hz.1 (by decide)
  have HC : Hid (∀ W, Below w.heap.size w W → Calls Tryz.prog 167 #[.agg #[.string x.shape.row, .slice a x.shape.dims.length c]] W fun e w' => (∃ v, e = .returned v ∧ Own RBnd 103 (fun _ => False) w' W.heap.size v (varsV x.shape)) ∧ Below W.heap.size W w') :=
    Lib.hid (fun W hW => ref11_Vars (S := S) (cs := [.string x.shape.row, .slice a x.shape.dims.length c]) ⟨_, rfl, a, c, rfl, hs.below hW⟩ hz.2)
  have HLen := Lib.hid (varsV_len x.shape); clear hs
  have B0 : Hid (Below w.heap.size w (w.alloc (.cells #[.string x.elem, .string x.shape.row, .slice a x.shape.dims.length c] 39))) := Lib.hid ((Below.refl _ _).alloc (by simp <;> omega) _)
  have xa0 : (w.alloc (.cells #[.string x.elem, .string x.shape.row, .slice a x.shape.dims.length c] 39)).cell? ⟨w.heap.size, 0, none⟩ = some (.string x.elem) := by simp [go_sem]
  have xa1 : (w.alloc (.cells #[.string x.elem, .string x.shape.row, .slice a x.shape.dims.length c] 39)).cell? ⟨w.heap.size, 1, none⟩ = some (.string x.shape.row) := by simp [go_sem]
  have xa2 : (w.alloc (.cells #[.string x.elem, .string x.shape.row, .slice a x.shape.dims.length c] 39)).cell? ⟨w.heap.size, 2, none⟩ = some (.slice a x.shape.dims.length c) := by simp [go_sem]
  have hW0 : (w.alloc (.cells #[.string x.elem, .string x.shape.row, .slice a x.shape.dims.length c] 39)).heap.size = w.heap.size + 1 := by simp
  by_cases hv : validTyp x = true
  case neg =>
    have hv : validTyp x = false := by simpa using hv
    rw [hv] at HV
    have HF : Hid (varsTy x = []) := Lib.hid (by unfold varsTy; rw [hv]; rfl)
    clear hv
    go_enter Tryz.func125, Tryz.ntmps125
    go_wp2_with fail
    refine (HV.out _ B0.out).mono ?_
    rintro e w1 ⟨rfl, hb⟩
    go_wp2_with fail
    go_ret
    exact ⟨⟨_, rfl, by rw [HF.out]; exact Own.nil _ _ _ _ _⟩, B0.out.trans (hb.mono B0.out.size)⟩
  rw [hv] at HV
  have HF : Hid (varsTy x = if elemVarB x.elem then addV (varsV x.shape) 3 x.elem else varsV x.shape) := Lib.hid (by unfold varsTy; rw [hv]; rfl)
  clear hv
  by_cases he : elemVarB x.elem = true
  · have HF : Hid (varsTy x = addV (varsV x.shape) 3 x.elem) := Lib.hid (by rw [HF.out, he]; rfl)
    go_enter Tryz.func125, Tryz.ntmps125
    go_wp2_with fail
    refine (HV.out _ B0.out).mono ?_
    rintro e w1 ⟨rfl, hb⟩
    have y0 := cellB xa0 _ hb; have y1 := cellB xa1 _ hb; have y2 := cellB xa2 _ hb; have HW := Lib.hid (B0.out.trans (hb.mono B0.out.size)); clear xa0 xa1 xa2
    go_wp2_with fail
    refine (HC.out _ HW.out).mono ?_
    rintro e w2 ⟨⟨v, rfl, hown⟩, hb2⟩
    have z0 := cellB y0 _ hb2
    have HO := Lib.hid (ref11_AddVar hown hb2.size (by have := HLen.out; omega) 3 x.elem)
    clear hown
    go_wp2_with fail
    refine (ref11_ElemVar x.elem hez _).mono ?_
    rintro e _ ⟨rfl, rfl⟩
    go_wp2_with fail
    refine HO.out.mono ?_
    rintro e w3 ⟨⟨v3, rfl, hown3⟩, hb3⟩
    go_wp2_with fail
    go_ret
    exact ⟨⟨_, rfl, by rw [HF.out]; exact hown3.lower HW.out.size⟩, HW.out.trans ((hb2.trans hb3).mono HW.out.size)⟩
  · have he : elemVarB x.elem = false := by simpa using he
    have HF : Hid (varsTy x = varsV x.shape) := Lib.hid (by rw [HF.out, he]; rfl)
    go_enter Tryz.func125, Tryz.ntmps125
    go_wp2_with fail
    refine (HV.out _ B0.out).mono ?_
    rintro e w1 ⟨rfl, hb⟩
    have y0 := cellB xa0 _ hb; have y1 := cellB xa1 _ hb; have y2 := cellB xa2 _ hb; have HW := Lib.hid (B0.out.trans (hb.mono B0.out.size)); clear xa0 xa1 xa2
    go_wp2_with fail
    refine (HC.out _ HW.out).mono ?_
    rintro e w2 ⟨⟨v, rfl, hown⟩, hb2⟩
    have z0 := cellB y0 _ hb2
    go_wp2_with fail
    refine (ref11_ElemVar x.elem hez _).mono ?_
    rintro e _ ⟨rfl, rfl⟩
    go_wp2_with fail
    go_ret
    exact ⟨⟨_, rfl, by rw [HF.out]; exact hown.lower HW.out.size⟩, HW.out.trans (hb2.mono HW.out.size)⟩
end Go.Proofs.YtjongcdlginjlaaGreatDoor
namespace Go.Proofs.YtjongcdlginjlaaGreatDoor
open Go.RowKit
def bndL (l : List Bnd) (name : Str) : Lin := if l.any (isB 1 name) then (l.getD (l.findIdx (isB 1 name)) default).dim else ⟨0, []⟩
theorem bnd_hit {l : List Bnd} {name : Str} {k : Nat} (hk : k < l.length) (h : isB 1 name (l.getD k default) = true) (hb : ∀ j, j < k → isB 1 name (l.getD j default) = false) : bndL l name = (l.getD k default).dim ∧ l.any (isB 1 name) = true := by
  have hi := idx_hit hk h hb
  unfold idx at hi
  by_cases ha : l.any (isB 1 name) = true
  · rw [if_pos ha] at hi
    have hi2 : l.findIdx (isB 1 name) = k := by omega
    unfold bndL
    rw [if_pos ha, hi2]
    exact ⟨rfl, ha⟩
  · rw [if_neg ha] at hi
    omega
theorem bnd_none {l : List Bnd} {name : Str} (hb : ∀ j, j < l.length → isB 1 name (l.getD j default) = false) : bndL l name = ⟨0, []⟩ ∧ l.any (isB 1 name) = false := by
  have hi := idx_none hb
  unfold idx at hi
  by_cases ha : l.any (isB 1 name) = true
  · rw [if_pos ha] at hi
    omega
  · have ha : l.any (isB 1 name) = false := by simpa using ha
    unfold bndL
    rw [ha]
    exact ⟨rfl, rfl⟩
theorem ref04_bound {S : Blk} (l : List Bnd) (a : Option Addr) (n c : Nat) (w : World) (h : Sl RBnd S w a n c l) (name : Str) :
    Calls Tryz.prog 121 #[.slice a n c, .string name] w fun e w' => (∃ ds, e = .returned (.tuple #[.agg ds.toArray, .bool (l.any (isB 1 name))]) ∧ RLin.rd S w' ds (bndL l name)) ∧ Below w.heap.size w w' := by
  have H := Lib.hid h; have hn := h.small; clear h
  have hB0 : Below w.heap.size w (w.alloc (.cells #[.int .i64 0, .slice none 0 0] 65)) := (Below.refl _ _).alloc (Nat.le_refl _) _
  have z0 : (w.alloc (.cells #[.int .i64 0, .slice none 0 0] 65)).cell? ⟨w.heap.size, 0, none⟩ = some (.int .i64 0) := by simp [go_sem]
  have z1 : (w.alloc (.cells #[.int .i64 0, .slice none 0 0] 65)).cell? ⟨w.heap.size, 1, none⟩ = some (.slice none 0 0) := by simp [go_sem]
  have hblk : (w.alloc (.cells #[.int .i64 0, .slice none 0 0] 65)).heap[w.heap.size]? = some (.cells #[.int .i64 0, .slice none 0 0] 65 (0, 0)) := by (simp only [drew_heap, alloc_heap, Array.getElem?_push, Array.size_push]; simp)
  have fz0 : (w.alloc (.cells #[.int .i64 0, .slice none 0 0] 65)).frozen? ⟨w.heap.size, 0, none⟩ = false := by unfold World.frozen?; rw [hblk]; rfl
  have fz1 : (w.alloc (.cells #[.int .i64 0, .slice none 0 0] 65)).frozen? ⟨w.heap.size, 1, none⟩ = false := by unfold World.frozen?; rw [hblk]; rfl
  have H1 := Lib.hid (H.out.below hB0); have HB0 := Lib.hid hB0; clear hB0 hblk
  go_enter Tryz.func121, Tryz.ntmps121
  go_wp2_with fail
  generalize (w.alloc (.cells #[.int .i64 0, .slice none 0 0] 65)) = W at *
  go_loopw [6] (fun i wr => ∃ k : Nat, k ≤ n ∧ i = .int .i64 k ∧ Hid (∀ j, j < k → isB 1 name (l.getD j default) = false) ∧ W = wr) (fun i _ => n - (intOf i).toNat)
  case atStart => exact ⟨0, Nat.zero_le _, rfl, fun j hj => absurd hj (by omega), rfl⟩
  case round =>
    obtain ⟨k, hk, rfl, HT, rfl⟩ := hrel
    by_cases hlt : k < n
    · obtain ⟨b, off, rfl, hbW, _⟩ := H1.out.form k hlt
      have HK : Hid (k < l.length) := Lib.hid (by rw [H.out.len]; exact hlt)
      obtain ⟨t, d, hr, hd, c0, c1, c2, c3, c4, c5, c6⟩ := H1.out.bnd k hlt; obtain ⟨⟨ta, tc, rfl, hts⟩, _⟩ := hd
      have hts : Sl RCoef S W ta (l.getD k default).dim.terms.length tc (l.getD k default).dim.terms := hts
      have HH : Hid (isB 1 name (l.getD k default) = true → bndL l name = (l.getD k default).dim ∧ l.any (isB 1 name) = true) := Lib.hid (fun q => bnd_hit HK.out q HT.out)
      have HG := Lib.hid (fun q => upto HT.out (p := fun j => isB 1 name (l.getD j default) = false) q)
      have HE : Hid (isB 1 name (l.getD k default) = ((l.getD k default).kind == 1 && ((l.getD k default).v.toList == name.toList))) := Lib.hid rfl
      obtain ⟨t0, d0, hr0, hd0, g0, g1, g2, g3, g4, g5, g6⟩ := H.out.bnd k hlt
      have HTs0 : Hid (Sl RCoef S w ta (l.getD k default).dim.terms.length tc (l.getD k default).dim.terms) := Lib.hid (by
        obtain ⟨⟨ta2, tc2, e2, hts2⟩, _⟩ := hd0
        have := cellB g3 _ HB0.out
        rw [c3] at this
        cases this
        cases e2
        exact hts2)
      clear hr hts hr0 hd0 g0 g1 g2 g3 g4 g5 g6
      generalize l.getD k default = x at *
      by_cases h1 : x.kind = 1
      · have q1 : (x.kind == 1) = true := beq_iff_eq.2 h1
        clear h1
        by_cases h2 : (x.v.toList == name.toList) = true
        · have HF := Lib.hid (HH.out (by rw [HE.out, q1, h2]; rfl))
          have s0 : (W.setCell ⟨w.heap.size, 0, none⟩ (.int .i64 x.dim.const)).cell? ⟨w.heap.size, 0, none⟩ = some (.int .i64 x.dim.const) := World.cell?_setCell_same' _ _ _ (by rw [z0]; rfl)
          have t1 : (W.setCell ⟨w.heap.size, 0, none⟩ (.int .i64 x.dim.const)).cell? ⟨w.heap.size, 1, none⟩ = some (.slice none 0 0) := (set_other _ _ _ _ _ (by decide)).trans z1
          have s1 : ((W.setCell ⟨w.heap.size, 0, none⟩ (.int .i64 x.dim.const)).setCell ⟨w.heap.size, 1, none⟩ (.slice ta x.dim.terms.length tc)).cell? ⟨w.heap.size, 1, none⟩ = some (.slice ta x.dim.terms.length tc) := World.cell?_setCell_same' _ _ _ (by rw [t1]; rfl)
          go_wp2_with fail
          refine bodyPost_ret (v := .tuple #[.agg #[.int .i64 x.dim.const, .slice ta x.dim.terms.length tc], .bool true]) (by simp [results, Tryz.results121, go_sem, s0, s1]) rfl ?_
          refine ⟨⟨[.int .i64 x.dim.const, .slice ta x.dim.terms.length tc], by rw [HF.out.2], by rw [HF.out.1]; exact ⟨_, rfl, ta, tc, rfl, HTs0.out.below ((HB0.out.setCell (Nat.le_refl _) _).setCell (Nat.le_refl _) _)⟩⟩, (HB0.out.setCell (Nat.le_refl _) _).setCell (Nat.le_refl _) _⟩
        · have h2 : (x.v.toList == name.toList) = false := by simpa using h2
          have HGo := Lib.hid (HG.out (by show isB 1 name x = false; rw [HE.out, q1, h2]; rfl))
          go_wp2_with fail
          go_roundw
          case rel => exact ⟨k + 1, by omega, by go_num, HGo, trivial⟩
          case measure => simp [intOf]; omega
      · have q1 : (x.kind == 1) = false := beq_eq_false_iff_ne.2 h1
        have HGo := Lib.hid (HG.out (by show isB 1 name x = false; rw [HE.out, q1]; rfl))
        clear h1
        go_wp2_with fail
        go_roundw
        case rel => exact ⟨k + 1, by omega, by go_num, HGo, trivial⟩
        case measure => simp [intOf]; omega
    · have HF := Lib.hid (bnd_none (l := l) (name := name) fun j hj => HT.out j (by rw [H.out.len] at hj; omega))
      have s0 : (W.setCell ⟨w.heap.size, 0, none⟩ (.int .i64 0)).cell? ⟨w.heap.size, 0, none⟩ = some (.int .i64 0) := World.cell?_setCell_same' _ _ _ (by rw [z0]; rfl)
      have t1 : (W.setCell ⟨w.heap.size, 0, none⟩ (.int .i64 0)).cell? ⟨w.heap.size, 1, none⟩ = some (.slice none 0 0) := (set_other _ _ _ _ _ (by decide)).trans z1
      have s1 : ((W.setCell ⟨w.heap.size, 0, none⟩ (.int .i64 0)).setCell ⟨w.heap.size, 1, none⟩ (.slice none 0 0)).cell? ⟨w.heap.size, 1, none⟩ = some (.slice none 0 0) := World.cell?_setCell_same' _ _ _ (by rw [t1]; rfl)
      go_wp2_with fail
      refine bodyPost_ret (v := .tuple #[.agg #[.int .i64 0, .slice none 0 0], .bool false]) (by simp [results, Tryz.results121, go_sem, s0, s1]) rfl ?_
      refine ⟨⟨[.int .i64 0, .slice none 0 0], by rw [HF.out.2], by rw [HF.out.1]; exact RLin.zero _ _⟩, (HB0.out.setCell (Nat.le_refl _) _).setCell (Nat.le_refl _) _⟩
end Go.Proofs.YtjongcdlginjlaaGreatDoor
namespace Go.Proofs.YtjongcdlginjlaaGreatDoor
open Go.RowKit
def ordI (a b : Int) : Int := if a < b then -1 else if b < a then 1 else 0
def cmpCoef (s t : Coef) : Int := if slt s.v t.v then -1 else if slt t.v s.v then 1 else ordI s.c t.c
def cmpTerms : List Coef → List Coef → Int
  | [], [] => 0
  | [], _ :: _ => -1
  | _ :: _, [] => 1
  | a :: x, b :: y => if cmpCoef a b = 0 then cmpTerms x y else cmpCoef a b
def cmpLin (a b : Lin) : Int := if cmpTerms a.terms b.terms = 0 then ordI a.const b.const else cmpTerms a.terms b.terms
theorem ordI_zero (a b : Int) : ordI a b = 0 ↔ a = b := by unfold ordI; split; omega; split <;> omega
theorem cmpCoef_zero (s t : Coef) : cmpCoef s t = 0 ↔ s = t := by
  unfold cmpCoef
  constructor
  · intro h
    split at h
    · cases h
    · split at h
      · cases h
      · next h1 h2 =>
        have e := slt_total (by simpa using h1) (by simpa using h2)
        have e2 := (ordI_zero _ _).1 h
        cases s; cases t; simp_all
  · rintro rfl
    rw [slt_irrefl]
    simp [(ordI_zero s.c s.c).2 rfl]
theorem eqCoef_iff (s t : Coef) : eqCoef s t = true ↔ s = t := by
  unfold eqCoef
  rw [Bool.and_eq_true, seq_iff, beq_iff_eq]
  constructor
  · rintro ⟨h1, h2⟩; cases s; cases t; simp_all
  · rintro rfl; exact ⟨rfl, rfl⟩
theorem cmpTerms_zero : ∀ (l l2 : List Coef), cmpTerms l l2 = 0 ↔ l = l2
  | [], [] => by simp [cmpTerms]
  | [], _ :: _ => by simp [cmpTerms]
  | _ :: _, [] => by simp [cmpTerms]
  | a :: x, b :: y => by
    unfold cmpTerms
    by_cases h : cmpCoef a b = 0
    · rw [if_pos h, cmpTerms_zero x y]
      have := (cmpCoef_zero a b).1 h
      subst this
      simp
    · rw [if_neg h]
      constructor
      · intro q; exact absurd q h
      · intro q; injection q with q1 q2; exact absurd ((cmpCoef_zero a b).2 q1) h
theorem eqList_iff {α : Type} [Inhabited α] (p : α → α → Bool) (hp : ∀ a b, p a b = true ↔ a = b) (l l2 : List α) : eqList p l l2 = true ↔ l = l2 := by
  unfold eqList
  rw [Bool.and_eq_true, beq_iff_eq, List.all_eq_true]
  constructor
  · rintro ⟨h1, h2⟩
    refine List.ext_getElem h1 fun i hi hi2 => ?_
    have := (hp _ _).1 (h2 i (List.mem_range.2 hi))
    rwa [List.getD_eq_getElem?_getD, List.getD_eq_getElem?_getD, List.getElem?_eq_getElem hi, List.getElem?_eq_getElem hi2] at this
  · rintro rfl
    exact ⟨rfl, fun i _ => (hp _ _).2 rfl⟩
theorem eqLin_iff (a b : Lin) : eqLin a b = true ↔ a = b := by
  unfold eqLin
  rw [Bool.and_eq_true, beq_iff_eq, eqList_iff _ eqCoef_iff]
  constructor
  · rintro ⟨h1, h2⟩; cases a; cases b; simp_all
  · rintro rfl; exact ⟨rfl, rfl⟩
theorem cmpLin_zero (a b : Lin) : cmpLin a b = 0 ↔ a = b := by
  unfold cmpLin
  constructor
  · intro h
    split at h
    · next q =>
      have e1 := (cmpTerms_zero _ _).1 q; have e2 := (ordI_zero _ _).1 h
      cases a; cases b; simp_all
    · next q => exact absurd h q
  · rintro rfl
    rw [if_pos ((cmpTerms_zero _ _).2 rfl)]
    exact (ordI_zero _ _).2 rfl
theorem eqLin_cmp (a b : Lin) : (cmpLin a b == 0) = eqLin a b := by
  rw [Bool.eq_iff_iff, beq_iff_eq, cmpLin_zero, eqLin_iff]
theorem eqShp_iff (a b : Shp) : eqShp a b = true ↔ a = b := by
  unfold eqShp
  rw [Bool.and_eq_true, seq_iff, eqList_iff _ eqLin_iff]
  constructor
  · rintro ⟨h1, h2⟩; cases a; cases b; simp_all
  · rintro rfl; exact ⟨rfl, rfl⟩
theorem eqTyp_iff (a b : Typ) : eqTyp a b = true ↔ a = b := by
  unfold eqTyp
  rw [Bool.and_eq_true, seq_iff, eqShp_iff]
  constructor
  · rintro ⟨h1, h2⟩; cases a; cases b; simp_all
  · rintro rfl; exact ⟨rfl, rfl⟩
theorem eqSch_iff (a b : Sch) : eqSch a b = true ↔ a = b := by
  unfold eqSch
  rw [Bool.and_eq_true, Bool.and_eq_true, eqList_iff _ eqTyp_iff, eqTyp_iff, eqList_iff _ eqLin_iff]
  constructor
  · rintro ⟨h1, h2, h3⟩; cases a; cases b; simp_all
  · rintro rfl; exact ⟨rfl, rfl, rfl⟩
theorem cmp_drop : ∀ (k : Nat) (l l2 : List Coef), k ≤ l.length → k ≤ l2.length → (∀ j, j < k → cmpCoef (l.getD j default) (l2.getD j default) = 0) → cmpTerms l l2 = cmpTerms (l.drop k) (l2.drop k)
  | 0, _, _, _, _, _ => rfl
  | k + 1, [], _, h, _, _ => by simp at h
  | k + 1, _ :: _, [], _, h, _ => by simp at h
  | k + 1, a :: l, b :: l2, h1, h2, h => by
    have h0 := h 0 (by omega)
    simp only [List.getD_cons_zero] at h0
    show (if cmpCoef a b = 0 then cmpTerms l l2 else cmpCoef a b) = cmpTerms (l.drop k) (l2.drop k)
    rw [if_pos h0]
    exact cmp_drop k l l2 (by simpa using h1) (by simpa using h2) (fun j hj => by have := h (j + 1) (by omega); simpa using this)
theorem cmp_stop {l l2 : List Coef} {k : Nat} (h1 : k < l.length) (h2 : k < l2.length) (h : ∀ j, j < k → cmpCoef (l.getD j default) (l2.getD j default) = 0) (hk : cmpCoef (l.getD k default) (l2.getD k default) ≠ 0) : cmpTerms l l2 = cmpCoef (l.getD k default) (l2.getD k default) := by
  rw [cmp_drop k l l2 (by omega) (by omega) h, List.drop_eq_getElem_cons h1, List.drop_eq_getElem_cons h2]
  have e : ∀ {q : List Coef} (hq : k < q.length), q.getD k default = q[k] := fun hq => by rw [List.getD_eq_getElem?_getD, List.getElem?_eq_getElem hq]; rfl
  rw [e h1, e h2] at hk ⊢
  unfold cmpTerms
  rw [if_neg hk]
theorem cmp_end {l l2 : List Coef} {k : Nat} (h1 : k = l.length ∨ k = l2.length) (hl : k ≤ l.length) (hl2 : k ≤ l2.length) (h : ∀ j, j < k → cmpCoef (l.getD j default) (l2.getD j default) = 0) : cmpTerms l l2 = ordI l.length l2.length := by
  rw [cmp_drop k l l2 hl hl2 h]
  have a1 : (l.drop k).length = l.length - k := List.length_drop
  have a2 : (l2.drop k).length = l2.length - k := List.length_drop
  unfold ordI
  cases e1 : l.drop k with
  | nil =>
    rw [e1] at a1
    simp at a1
    cases e2 : l2.drop k with
    | nil => rw [e2] at a2; simp at a2; simp only [cmpTerms]; rw [if_neg (by omega), if_neg (by omega)]
    | cons b y => rw [e2] at a2; simp at a2; simp only [cmpTerms]; rw [if_pos (by omega)]
  | cons a x =>
    rw [e1] at a1
    simp at a1
    cases e2 : l2.drop k with
    | nil => rw [e2] at a2; simp at a2; simp only [cmpTerms]; rw [if_neg (by omega), if_pos (by omega)]
    | cons b y => rw [e2] at a2; simp at a2; omega
end Go.Proofs.YtjongcdlginjlaaGreatDoor
namespace Go.Proofs.YtjongcdlginjlaaGreatDoor
open Go.RowKit
theorem cmpB : ∀ (x y : List UInt8), Lib.compareBytes x y = if Op.bytesLess x y = true then -1 else if Op.bytesLess y x = true then 1 else 0
  | [], [] => rfl
  | [], _ :: _ => rfl
  | _ :: _, [] => rfl
  | a :: x, b :: y => by
    unfold Lib.compareBytes Op.bytesLess
    by_cases h1 : a < b
    · simp [h1]
    · by_cases h2 : b < a
      · have : ¬ a = b := by intro e; subst e; exact h1 h2
        have h3 : ¬ a < b := h1
        simp [h1, h2, this]
      · have : a = b := UInt8.le_antisymm (UInt8.not_lt.1 h2) (UInt8.not_lt.1 h1)
        subst this
        simp [h1, cmpB x y]
def cmpS (a b : Str) : Int := if slt a b then -1 else if slt b a then 1 else 0
theorem strings_cmp (a b : Str) (w : World) : Calls Tryz.prog 51 #[.string a, .string b] w fun e w' => e = .returned (.int .i64 (cmpS a b)) ∧ w = w' := by
  refine (Tryz.strings_Compare a b w).mono ?_
  rintro e w' ⟨rfl, rfl⟩
  refine ⟨?_, rfl⟩
  unfold cmpS slt
  rw [cmpB, ByteArray.toList_eq, ByteArray.toList_eq]
theorem linear_order (a b : Int) (w : World) : Calls Tryz.prog 112 #[.int .i64 a, .int .i64 b] w fun e w' => e = .returned (.int .i64 (ordI a b)) ∧ w = w' := by
  unfold ordI
  by_cases h0 : a < b
  · have q : decide (a < b) = true := decide_eq_true h0
    go_enter Tryz.func112, Tryz.ntmps112
    go_wp2_with fail
    go_ret
    exact ⟨rfl, rfl⟩
  · by_cases h1 : b < a
    · go_enter Tryz.func112, Tryz.ntmps112
      go_wp2_with fail
      go_ret
      exact ⟨rfl, rfl⟩
    · go_enter Tryz.func112, Tryz.ntmps112
      go_wp2_with fail
      go_ret
      exact ⟨rfl, rfl⟩
theorem cmpCoef_s (s t : Coef) : cmpCoef s t = if cmpS s.v t.v = 0 then ordI s.c t.c else cmpS s.v t.v := by
  unfold cmpCoef cmpS
  cases slt s.v t.v <;> cases slt t.v s.v <;> simp
theorem linear_Compare_1 (s t : Coef) (w : World) : Calls Tryz.prog 111 #[.agg #[.string s.v, .int .i64 s.c], .agg #[.string t.v, .int .i64 t.c]] w fun e w' => e = .returned (.int .i64 (cmpCoef s t)) ∧ Below w.heap.size w w' := by
  have B0 : Hid (Below w.heap.size w ((w.alloc (.cells #[.string s.v, .int .i64 s.c] 62)).alloc (.cells #[.string t.v, .int .i64 t.c] 62))) := Lib.hid (((Below.refl _ _).alloc (by simp <;> omega) _).alloc (by simp <;> omega) _)
  have xa0 : ((w.alloc (.cells #[.string s.v, .int .i64 s.c] 62)).alloc (.cells #[.string t.v, .int .i64 t.c] 62)).cell? ⟨w.heap.size, 0, none⟩ = some (.string s.v) := by simp [go_sem]
  have xa1 : ((w.alloc (.cells #[.string s.v, .int .i64 s.c] 62)).alloc (.cells #[.string t.v, .int .i64 t.c] 62)).cell? ⟨w.heap.size, 1, none⟩ = some (.int .i64 s.c) := by simp [go_sem]
  have xb0 : ((w.alloc (.cells #[.string s.v, .int .i64 s.c] 62)).alloc (.cells #[.string t.v, .int .i64 t.c] 62)).cell? ⟨w.heap.size + 1, 0, none⟩ = some (.string t.v) := by simp [go_sem]
  have xb1 : ((w.alloc (.cells #[.string s.v, .int .i64 s.c] 62)).alloc (.cells #[.string t.v, .int .i64 t.c] 62)).cell? ⟨w.heap.size + 1, 1, none⟩ = some (.int .i64 t.c) := by simp [go_sem]
  have hW0 : ((w.alloc (.cells #[.string s.v, .int .i64 s.c] 62)).alloc (.cells #[.string t.v, .int .i64 t.c] 62)).heap.size = w.heap.size + 2 := by simp
  have HN := Lib.hid (cmpCoef_s s t)
  have HC := fun w => strings_cmp s.v t.v w
  generalize cmpS s.v t.v = d at *
  have HC := Lib.hid HC
  by_cases hd : d = 0
  · have HF : Hid (cmpCoef s t = ordI s.c t.c) := Lib.hid (by rw [HN.out, if_pos hd])
    have hq : (d != 0) = false := by rw [hd]; rfl
    go_enter Tryz.func111, Tryz.ntmps111
    go_wp2_with fail
    refine (HC.out _).mono ?_
    rintro e _ ⟨rfl, rfl⟩
    go_wp2_with fail
    refine (linear_order _ _ _).mono ?_
    rintro e _ ⟨rfl, rfl⟩
    go_wp2_with fail
    go_ret
    exact ⟨by rw [HF.out]; rfl, B0.out⟩
  · have HF : Hid (cmpCoef s t = d) := Lib.hid (by rw [HN.out, if_neg hd])
    have hq : (d != 0) = true := bne_iff_ne.2 hd
    go_enter Tryz.func111, Tryz.ntmps111
    go_wp2_with fail
    refine (HC.out _).mono ?_
    rintro e _ ⟨rfl, rfl⟩
    go_wp2_with fail
    go_ret
    exact ⟨by rw [HF.out]; rfl, B0.out⟩
theorem compareFunc_Coef {S T : Blk} (l l2 : List Coef) (a a2 : Option Addr) (n n2 c c2 : Nat) (w : World) (h : Sl RCoef S w a n c l) (h2 : Sl RCoef T w a2 n2 c2 l2) :
    Calls Tryz.prog 110 #[.slice a n c, .slice a2 n2 c2, .func (.func 111) #[] #[]] w fun e w' => e = .returned (.int .i64 (cmpTerms l l2)) ∧ Below w.heap.size w w' := by
  have H := Lib.hid h; have H2 := Lib.hid h2; have hn := h.small; have hn2 := h2.small; clear h h2; have hen := enter_any Tryz.func111 rfl rfl
  go_enter Tryz.func110, Tryz.ntmps110
  go_wp2_with fail
  go_loopw [13] (fun i wr => ∃ k : Nat, k ≤ n ∧ k ≤ n2 ∧ i = .int .i64 k ∧ Hid (∀ j, j < k → cmpCoef (l.getD j default) (l2.getD j default) = 0) ∧ Below w.heap.size w wr) (fun i _ => n - (intOf i).toNat)
  case atStart => exact ⟨0, Nat.zero_le _, Nat.zero_le _, rfl, fun j hj => absurd hj (by omega), Below.refl _ _⟩
  case round =>
    obtain ⟨k, hk, hk2, rfl, HT, hB⟩ := hrel
    by_cases hlt : k < n
    · obtain ⟨b, off, rfl, hbW, _⟩ := H.out.form k hlt
      have HR := Lib.hid (H.out.below hB); obtain ⟨c0, c1⟩ := HR.out.coef k hlt
      by_cases hlt2 : k < n2
      · obtain ⟨b2, off2, rfl, hbW2, _⟩ := H2.out.form k hlt2
        have HR2 := Lib.hid (H2.out.below hB); obtain ⟨d0, d1⟩ := HR2.out.coef k hlt2
        have HS : Hid (cmpCoef (l.getD k default) (l2.getD k default) ≠ 0 → cmpTerms l l2 = cmpCoef (l.getD k default) (l2.getD k default)) := Lib.hid (fun q => cmp_stop (by rw [H.out.len]; exact hlt) (by rw [H2.out.len]; exact hlt2) HT.out q)
        have HG : Hid (cmpCoef (l.getD k default) (l2.getD k default) = 0 → ∀ j, j < k + 1 → cmpCoef (l.getD j default) (l2.getD j default) = 0) := Lib.hid (fun q => upto HT.out q)
        generalize l.getD k default = x at *
        generalize l2.getD k default = y at *
        have hA1 : Below wr.heap.size wr (wr.alloc (.cells #[.string x.v, .int .i64 x.c] 62)) := (Below.refl _ _).alloc (Nat.le_refl _) _
        have e0 := cellB d0 _ hA1; have e1 := cellB d1 _ hA1; clear hA1 d0 d1; have HC := Lib.hid (linear_Compare_1 x y)
        generalize cmpCoef x y = d at *
        by_cases hd : d = 0
        · have HGo := Lib.hid (HG.out hd)
          have hq : (d != 0) = false := by rw [hd]; rfl
          clear hd
          go_wp2_with (go_at_call 111; refine (HC.out _).mono ?_; rintro e w' ⟨rfl, hb'⟩)
          go_roundw
          case rel => exact ⟨k + 1, by omega, by omega, by go_num, HGo, (hB.trans ((blw2 _ _ _).mono hB.size)).trans (hb'.mono (Nat.le_trans hB.size (blw2 _ _ _).size))⟩
          case measure => simp [intOf]; omega
        · have HF := Lib.hid (HS.out hd)
          have hq : (d != 0) = true := bne_iff_ne.2 hd
          clear hd
          go_wp2_with (go_at_call 111; refine (HC.out _).mono ?_; rintro e w' ⟨rfl, hb'⟩)
          go_ret
          exact ⟨by rw [HF.out]; rfl, (hB.trans ((blw2 _ _ _).mono hB.size)).trans (hb'.mono (Nat.le_trans hB.size (blw2 _ _ _).size))⟩
      · have HF : Hid (cmpTerms l l2 = 1) := Lib.hid (by
          rw [cmp_end (k := k) (.inr (by rw [H2.out.len]; omega)) (by rw [H.out.len]; omega) (by rw [H2.out.len]; omega) HT.out, H.out.len, H2.out.len]
          unfold ordI
          rw [if_neg (by omega), if_pos (by omega)])
        have hq : (n2 : Int) ≤ (k : Int) := by omega
        go_wp2_with fail
        go_ret
        exact ⟨by rw [HF.out]; rfl, hB.alloc hB.size _⟩
    · obtain rfl : k = n := by omega
      have HE : Hid (cmpTerms l l2 = ordI k n2) := Lib.hid (by
        rw [cmp_end (k := k) (.inl (by rw [H.out.len])) (by rw [H.out.len]; omega) (by rw [H2.out.len]; omega) HT.out, H.out.len, H2.out.len])
      by_cases hq : k < n2
      · have HF : Hid (cmpTerms l l2 = -1) := Lib.hid (by rw [HE.out]; unfold ordI; rw [if_pos (by omega)])
        go_wp2_with fail
        go_ret
        exact ⟨by rw [HF.out]; rfl, hB⟩
      · have HF : Hid (cmpTerms l l2 = 0) := Lib.hid (by rw [HE.out]; unfold ordI; rw [if_neg (by omega), if_neg (by omega)])
        go_wp2_with fail
        go_ret
        exact ⟨by rw [HF.out]; rfl, hB⟩
theorem linear_Compare {S T : Blk} {x y : Lin} {cs ds : List Value} {w : World} (h : RLin.rd S w cs x) (h2 : RLin.rd T w ds y) :
    Calls Tryz.prog 63 #[.agg cs.toArray, .agg ds.toArray] w fun e w' => e = .returned (.int .i64 (cmpLin x y)) ∧ Below w.heap.size w w' := by
  obtain ⟨t, rfl, a, c, rfl, hs⟩ := h; obtain ⟨t2, rfl, a2, c2, rfl, hs2⟩ := h2
  have B0 : Hid (Below w.heap.size w ((w.alloc (.cells #[.int .i64 x.const, .slice a x.terms.length c] 65)).alloc (.cells #[.int .i64 y.const, .slice a2 y.terms.length c2] 65))) := Lib.hid (((Below.refl _ _).alloc (by simp <;> omega) _).alloc (by simp <;> omega) _)
  have xa0 : ((w.alloc (.cells #[.int .i64 x.const, .slice a x.terms.length c] 65)).alloc (.cells #[.int .i64 y.const, .slice a2 y.terms.length c2] 65)).cell? ⟨w.heap.size, 0, none⟩ = some (.int .i64 x.const) := by simp [go_sem]
  have xa1 : ((w.alloc (.cells #[.int .i64 x.const, .slice a x.terms.length c] 65)).alloc (.cells #[.int .i64 y.const, .slice a2 y.terms.length c2] 65)).cell? ⟨w.heap.size, 1, none⟩ = some (.slice a x.terms.length c) := by simp [go_sem]
  have xb0 : ((w.alloc (.cells #[.int .i64 x.const, .slice a x.terms.length c] 65)).alloc (.cells #[.int .i64 y.const, .slice a2 y.terms.length c2] 65)).cell? ⟨w.heap.size + 1, 0, none⟩ = some (.int .i64 y.const) := by simp [go_sem]
  have xb1 : ((w.alloc (.cells #[.int .i64 x.const, .slice a x.terms.length c] 65)).alloc (.cells #[.int .i64 y.const, .slice a2 y.terms.length c2] 65)).cell? ⟨w.heap.size + 1, 1, none⟩ = some (.slice a2 y.terms.length c2) := by simp [go_sem]
  have hW0 : ((w.alloc (.cells #[.int .i64 x.const, .slice a x.terms.length c] 65)).alloc (.cells #[.int .i64 y.const, .slice a2 y.terms.length c2] 65)).heap.size = w.heap.size + 2 := by simp
  have HC := Lib.hid (compareFunc_Coef x.terms y.terms a a2 _ _ c c2 _ (hs.below B0.out) (hs2.below B0.out))
  have HN : Hid (cmpLin x y = if cmpTerms x.terms y.terms = 0 then ordI x.const y.const else cmpTerms x.terms y.terms) := Lib.hid rfl
  clear hs hs2
  generalize cmpTerms x.terms y.terms = d at *
  by_cases hd : d = 0
  · have HF : Hid (cmpLin x y = ordI x.const y.const) := Lib.hid (by rw [HN.out, if_pos hd])
    have hq : (d != 0) = false := by rw [hd]; rfl
    clear hd
    go_enter Tryz.func63, Tryz.ntmps63
    go_wp2_with fail
    refine (HC.out).mono ?_
    rintro e w1 ⟨rfl, hb⟩
    have e0 := cellB xa0 _ hb; have f0 := cellB xb0 _ hb
    go_wp2_with fail
    refine (linear_order _ _ _).mono ?_
    rintro e _ ⟨rfl, rfl⟩
    go_wp2_with fail
    go_ret
    exact ⟨by rw [HF.out]; rfl, B0.out.trans (hb.mono B0.out.size)⟩
  · have HF : Hid (cmpLin x y = d) := Lib.hid (by rw [HN.out, if_neg hd])
    have hq : (d != 0) = true := bne_iff_ne.2 hd
    clear hd
    go_enter Tryz.func63, Tryz.ntmps63
    go_wp2_with fail
    refine (HC.out).mono ?_
    rintro e w1 ⟨rfl, hb⟩
    go_wp2_with fail
    go_ret
    exact ⟨by rw [HF.out]; rfl, B0.out.trans (hb.mono B0.out.size)⟩
end Go.Proofs.YtjongcdlginjlaaGreatDoor
namespace Go.Proofs.YtjongcdlginjlaaGreatDoor
open Go.RowKit
theorem ordI_lt {a b : Int} (h : a < b) : ordI a b = -1 := by unfold ordI; rw [if_pos h]
theorem ordI_gt {a b : Int} (h : b < a) : ordI a b = 1 := by unfold ordI; rw [if_neg (by omega), if_pos h]
theorem cmp_less {x y : Coef} (h : slt x.v y.v = true) : cmpCoef x y = -1 := by unfold cmpCoef; rw [if_pos h]
theorem cmp_eq {x y : Coef} (h : seq x.v y.v = true) : cmpCoef x y = ordI x.c y.c := by
  have e := (seq_iff _ _).1 h
  unfold cmpCoef
  rw [e, slt_irrefl]; rfl
theorem cmp_more {x y : Coef} (h : slt x.v y.v = false) (h2 : seq x.v y.v = false) : cmpCoef x y = 1 := by
  unfold cmpCoef
  rw [h]
  cases q : slt y.v x.v with
  | true => rfl
  | false => have := slt_total h q; rw [this, seq_refl] at h2; cases h2
set_option maxHeartbeats 4000000 in
theorem ref04_Compare {S T : Blk} {x y : Lin} {cs ds : List Value} {w : World} (h : RLin.rd S w cs x) (h2 : RLin.rd T w ds y) :
    Calls Tryz.prog 73 #[.agg cs.toArray, .agg ds.toArray] w fun e w' => e = .returned (.int .i64 (cmpLin x y)) ∧ Below w.heap.size w w' := by
  obtain ⟨t, rfl, a, c, rfl, hs⟩ := h; obtain ⟨t2, rfl, a2, c2, rfl, hs2⟩ := h2; have hn := hs.small; have hn2 := hs2.small
  generalize hL : x.terms.length = n at *
  generalize hL2 : y.terms.length = n2 at *
  have B0 : Hid (Below w.heap.size w ((w.alloc (.cells #[.int .i64 x.const, .slice a n c] 65)).alloc (.cells #[.int .i64 y.const, .slice a2 n2 c2] 65))) := Lib.hid (((Below.refl _ _).alloc (by simp <;> omega) _).alloc (by simp <;> omega) _)
  have xa0 : ((w.alloc (.cells #[.int .i64 x.const, .slice a n c] 65)).alloc (.cells #[.int .i64 y.const, .slice a2 n2 c2] 65)).cell? ⟨w.heap.size, 0, none⟩ = some (.int .i64 x.const) := by simp [go_sem]
  have xa1 : ((w.alloc (.cells #[.int .i64 x.const, .slice a n c] 65)).alloc (.cells #[.int .i64 y.const, .slice a2 n2 c2] 65)).cell? ⟨w.heap.size, 1, none⟩ = some (.slice a n c) := by simp [go_sem]
  have xb0 : ((w.alloc (.cells #[.int .i64 x.const, .slice a n c] 65)).alloc (.cells #[.int .i64 y.const, .slice a2 n2 c2] 65)).cell? ⟨w.heap.size + 1, 0, none⟩ = some (.int .i64 y.const) := by simp [go_sem]
  have xb1 : ((w.alloc (.cells #[.int .i64 x.const, .slice a n c] 65)).alloc (.cells #[.int .i64 y.const, .slice a2 n2 c2] 65)).cell? ⟨w.heap.size + 1, 1, none⟩ = some (.slice a2 n2 c2) := by simp [go_sem]
  have hW0 : ((w.alloc (.cells #[.int .i64 x.const, .slice a n c] 65)).alloc (.cells #[.int .i64 y.const, .slice a2 n2 c2] 65)).heap.size = w.heap.size + 2 := by simp
  have H := Lib.hid (hs.below B0.out); have H2 := Lib.hid (hs2.below B0.out); clear hs hs2; have HL := Lib.hid hL; have HL2 := Lib.hid hL2
  have HN : Hid (cmpLin x y = if cmpTerms x.terms y.terms = 0 then ordI x.const y.const else cmpTerms x.terms y.terms) := Lib.hid rfl
  clear hL hL2
  go_enter Tryz.func73, Tryz.ntmps73
  go_wp2_with fail
  generalize ((w.alloc (.cells #[.int .i64 x.const, .slice a n c] 65)).alloc (.cells #[.int .i64 y.const, .slice a2 n2 c2] 65)) = W at *
  go_loopw [5] (fun i wr => ∃ k : Nat, k ≤ n ∧ k ≤ n2 ∧ i = .int .i64 k ∧ Hid (∀ j, j < k → cmpCoef (x.terms.getD j default) (y.terms.getD j default) = 0) ∧ Below W.heap.size W wr) (fun i _ => n - (intOf i).toNat)
  case atStart => exact ⟨0, Nat.zero_le _, Nat.zero_le _, rfl, fun j hj => absurd hj (by omega), Below.refl _ _⟩
  case round =>
    obtain ⟨k, hk, hk2, rfl, HT, hB⟩ := hrel; have e1 := cellB xa1 _ hB; have f1 := cellB xb1 _ hB
    by_cases hlt : k < n ∧ k < n2
    · obtain ⟨hlt, hlt2⟩ := hlt
      have q1 : decide ((k : Int) < (n : Int)) = true := decide_eq_true (by omega)
      obtain ⟨b, off, rfl, hbW, _⟩ := H.out.form k hlt; obtain ⟨b2, off2, rfl, hbW2, _⟩ := H2.out.form k hlt2; have HR := Lib.hid (H.out.below hB); have HR2 := Lib.hid (H2.out.below hB); obtain ⟨c0, c1⟩ := HR.out.coef k hlt; obtain ⟨d0, d1⟩ := HR2.out.coef k hlt2
      have HS : Hid (cmpCoef (x.terms.getD k default) (y.terms.getD k default) ≠ 0 → cmpTerms x.terms y.terms = cmpCoef (x.terms.getD k default) (y.terms.getD k default)) := Lib.hid (fun q => cmp_stop (by rw [HL.out]; exact hlt) (by rw [HL2.out]; exact hlt2) HT.out q)
      have HG : Hid (cmpCoef (x.terms.getD k default) (y.terms.getD k default) = 0 → ∀ j, j < k + 1 → cmpCoef (x.terms.getD j default) (y.terms.getD j default) = 0) := Lib.hid (fun q => upto HT.out q)
      generalize x.terms.getD k default = s at *
      generalize y.terms.getD k default = t at *
      have hb1 : b < wr.heap.size := Nat.lt_of_lt_of_le hbW hB.size
      have hb2 : b2 < wr.heap.size := Nat.lt_of_lt_of_le hbW2 hB.size
      have hw1 : w.heap.size < wr.heap.size := by have := hB.size; omega
      have hw2 : w.heap.size + 1 < wr.heap.size := by have := hB.size; omega
      clear xa0 xb0
      have HV : Hid (cmpTerms x.terms y.terms ≠ 0 → cmpLin x y = cmpTerms x.terms y.terms) := Lib.hid (fun q => by rw [HN.out, if_neg q])
      have HD : Hid (∀ d : Int, d ≠ 0 → cmpCoef s t = d → cmpLin x y = d) := Lib.hid (fun d q e => by
        have e2 := HS.out (by rw [e]; exact q)
        rw [HV.out (by rw [e2, e]; exact q), e2, e])
      have hgd : ∀ (o o2 : Operand) (xs ys : Array Value) w, (eqGuard .neq 62 o o2 (.agg xs) (.agg ys)).run Tryz.prog w = .ok () w := fun o o2 xs ys w => run_eqGuard_agg w .neq _ o o2 xs ys (by kernel_rfl)
      have HEq : Hid (eqCoef s t = ((s.v.toList == t.v.toList) && s.c == t.c)) := Lib.hid rfl
      have HL1 := Lib.hid (@cmp_less s t); have HL2 := Lib.hid (@cmp_eq s t); have HL3 := Lib.hid (@cmp_more s t)
      by_cases hl : Op.bytesLess s.v.toList t.v.toList = true
      · have HF : Hid (cmpLin x y = -1) := Lib.hid (HD.out (-1) (by decide) (HL1.out hl))
        go_wp2_with fail
        go_region
        all_goals
          go_wp2_with fail
          go_ret
          exact ⟨by rw [HF.out]; rfl, B0.out.trans ((((hB.alloc hB.size _).alloc (hB.alloc hB.size _).size _).drew).mono B0.out.size)⟩
      have hl : Op.bytesLess s.v.toList t.v.toList = false := by simpa using hl
      by_cases he : (s.v.toList == t.v.toList) = true
      · have HO := Lib.hid (HL2.out he)
        by_cases hc : s.c < t.c
        · have HF : Hid (cmpLin x y = -1) := Lib.hid (HD.out (-1) (by decide) (by rw [HO.out]; unfold ordI; rw [if_pos hc]))
          have qc : decide (s.c < t.c) = true := decide_eq_true hc
          go_wp2_with fail
          go_region
          all_goals
            go_wp2_with fail
            go_ret
            exact ⟨by rw [HF.out]; rfl, B0.out.trans ((((hB.alloc hB.size _).alloc (hB.alloc hB.size _).size _).drew).mono B0.out.size)⟩
        have qc : decide (s.c < t.c) = false := decide_eq_false hc
        by_cases hce : s.c = t.c
        · have HGo := Lib.hid (HG.out (by rw [HO.out]; exact (ordI_zero _ _).2 hce))
          have hbin : ∀ w, (binOp .neq 62 (.agg #[.string s.v, .int .i64 s.c]) (.agg #[.string t.v, .int .i64 t.c])).run Tryz.prog w = .ok (.bool false) w := fun w => by rw [neq_Coef, HEq.out, he, beq_iff_eq.2 hce]; rfl
          clear hce hc
          go_wp2_with fail
          go_region
          all_goals
            go_wp2_with fail
            go_roundw
            case rel => exact ⟨k + 1, by omega, by omega, by go_num, HGo, (((hB.alloc hB.size _).alloc (hB.alloc hB.size _).size _).drew)⟩
            case measure => simp [intOf]; omega
        · have HF : Hid (cmpLin x y = 1) := Lib.hid (HD.out 1 (by decide) (by rw [HO.out]; unfold ordI; rw [if_neg hc, if_pos (by omega)]))
          have hbin : ∀ w, (binOp .neq 62 (.agg #[.string s.v, .int .i64 s.c]) (.agg #[.string t.v, .int .i64 t.c])).run Tryz.prog w = .ok (.bool true) w := fun w => by rw [neq_Coef, HEq.out, he, beq_eq_false_iff_ne.2 hce]; rfl
          clear hce hc
          go_wp2_with fail
          go_region
          all_goals
            go_wp2_with fail
            go_ret
            exact ⟨by rw [HF.out]; rfl, B0.out.trans ((((hB.alloc hB.size _).alloc (hB.alloc hB.size _).size _).drew).mono B0.out.size)⟩
      · have he : (s.v.toList == t.v.toList) = false := by simpa using he
        have HF : Hid (cmpLin x y = 1) := Lib.hid (HD.out 1 (by decide) (HL3.out hl he))
        have hbin : ∀ w, (binOp .neq 62 (.agg #[.string s.v, .int .i64 s.c]) (.agg #[.string t.v, .int .i64 t.c])).run Tryz.prog w = .ok (.bool true) w := fun w => by rw [neq_Coef, HEq.out, he]; rfl
        go_wp2_with fail
        go_region
        all_goals
          go_wp2_with fail
          go_ret
          exact ⟨by rw [HF.out]; rfl, B0.out.trans ((((hB.alloc hB.size _).alloc (hB.alloc hB.size _).size _).drew).mono B0.out.size)⟩
    · have HE : Hid (cmpTerms x.terms y.terms = ordI n n2) := Lib.hid (by
        rw [cmp_end (k := k) (by rw [HL.out, HL2.out]; omega) (by rw [HL.out]; omega) (by rw [HL2.out]; omega) HT.out, HL.out, HL2.out])
      have e0 := cellB xa0 _ hB; have f0 := cellB xb0 _ hB; have HW := Lib.hid (B0.out.trans (hB.mono B0.out.size))
      rcases Nat.lt_trichotomy n n2 with g | g | g
      · have HF : Hid (cmpLin x y = -1) := Lib.hid (by rw [HN.out, HE.out, ordI_lt (by omega)]; rfl)
        have p1 : decide ((k : Int) < (n : Int)) = false := decide_eq_false (by omega)
        have p2 : decide ((n : Int) < (n2 : Int)) = true := decide_eq_true (by omega)
        go_wp2_with fail
        go_ret
        exact ⟨by rw [HF.out]; rfl, HW.out⟩
      · subst g
        have HF : Hid (cmpLin x y = ordI x.const y.const) := Lib.hid (by rw [HN.out, HE.out, (ordI_zero _ _).2 rfl, if_pos rfl])
        have p1 : decide ((k : Int) < (n : Int)) = false := decide_eq_false (by omega)
        have p2 : decide ((n : Int) < (n : Int)) = false := decide_eq_false (by omega)
        rcases Int.lt_trichotomy x.const y.const with r | r | r
        · have HF : Hid (cmpLin x y = -1) := Lib.hid (by rw [HF.out]; unfold ordI; rw [if_pos r])
          have p3 : decide (x.const < y.const) = true := decide_eq_true r
          go_wp2_with fail
          go_ret
          exact ⟨by rw [HF.out]; rfl, HW.out⟩
        · have HF : Hid (cmpLin x y = 0) := Lib.hid (by rw [HF.out]; exact (ordI_zero _ _).2 r)
          have p3 : decide (x.const < y.const) = false := decide_eq_false (by omega)
          have p4 : decide (y.const < x.const) = false := decide_eq_false (by omega)
          go_wp2_with fail
          go_ret
          exact ⟨by rw [HF.out]; rfl, HW.out⟩
        · have HF : Hid (cmpLin x y = 1) := Lib.hid (by rw [HF.out]; unfold ordI; rw [if_neg (by omega), if_pos r])
          have p3 : decide (x.const < y.const) = false := decide_eq_false (by omega)
          have p4 : decide (y.const < x.const) = true := decide_eq_true r
          go_wp2_with fail
          go_ret
          exact ⟨by rw [HF.out]; rfl, HW.out⟩
      · have HF : Hid (cmpLin x y = 1) := Lib.hid (by rw [HN.out, HE.out, ordI_gt (by omega)]; rfl)
        have p5 : decide ((k : Int) < (n2 : Int)) = false := decide_eq_false (by omega)
        have p2 : decide ((n : Int) < (n2 : Int)) = false := decide_eq_false (by omega)
        have p3 : ((n : Int) == (n2 : Int)) = false := beq_eq_false_iff_ne.2 (by omega)
        have p4 : decide ((n2 : Int) < (n : Int)) = true := decide_eq_true (by omega)
        have p1 : decide ((k : Int) < (n : Int)) = true := decide_eq_true (by omega)
        go_wp2_with fail
        go_ret
        exact ⟨by rw [HF.out]; rfl, HW.out⟩
theorem ref04_Equal {S T : Blk} {x y : Lin} {cs ds : List Value} {w : World} (h : RLin.rd S w cs x) (h2 : RLin.rd T w ds y) :
    Calls Tryz.prog 35 #[.agg cs.toArray, .agg ds.toArray] w fun e w' => e = .returned (.bool (eqLin x y)) ∧ Below w.heap.size w w' := by
  obtain ⟨t, rfl, a, c, rfl, hs⟩ := h; obtain ⟨t2, rfl, a2, c2, rfl, hs2⟩ := h2
  have B0 : Hid (Below w.heap.size w ((w.alloc (.cells #[.int .i64 x.const, .slice a x.terms.length c] 65)).alloc (.cells #[.int .i64 y.const, .slice a2 y.terms.length c2] 65))) := Lib.hid (((Below.refl _ _).alloc (by simp <;> omega) _).alloc (by simp <;> omega) _)
  have xa0 : ((w.alloc (.cells #[.int .i64 x.const, .slice a x.terms.length c] 65)).alloc (.cells #[.int .i64 y.const, .slice a2 y.terms.length c2] 65)).cell? ⟨w.heap.size, 0, none⟩ = some (.int .i64 x.const) := by simp [go_sem]
  have xa1 : ((w.alloc (.cells #[.int .i64 x.const, .slice a x.terms.length c] 65)).alloc (.cells #[.int .i64 y.const, .slice a2 y.terms.length c2] 65)).cell? ⟨w.heap.size, 1, none⟩ = some (.slice a x.terms.length c) := by simp [go_sem]
  have xb0 : ((w.alloc (.cells #[.int .i64 x.const, .slice a x.terms.length c] 65)).alloc (.cells #[.int .i64 y.const, .slice a2 y.terms.length c2] 65)).cell? ⟨w.heap.size + 1, 0, none⟩ = some (.int .i64 y.const) := by simp [go_sem]
  have xb1 : ((w.alloc (.cells #[.int .i64 x.const, .slice a x.terms.length c] 65)).alloc (.cells #[.int .i64 y.const, .slice a2 y.terms.length c2] 65)).cell? ⟨w.heap.size + 1, 1, none⟩ = some (.slice a2 y.terms.length c2) := by simp [go_sem]
  have hW0 : ((w.alloc (.cells #[.int .i64 x.const, .slice a x.terms.length c] 65)).alloc (.cells #[.int .i64 y.const, .slice a2 y.terms.length c2] 65)).heap.size = w.heap.size + 2 := by simp
  have HC := Lib.hid (ref04_Compare (x := x) (y := y) (S := S) (T := T) ⟨_, rfl, a, c, rfl, hs.below B0.out⟩ ⟨_, rfl, a2, c2, rfl, hs2.below B0.out⟩); have HN := Lib.hid (eqLin_cmp x y); clear hs hs2
  generalize cmpLin x y = d at *
  go_enter Tryz.func35, Tryz.ntmps35
  go_wp2_with fail
  refine (HC.out).mono ?_
  rintro e w1 ⟨rfl, hb⟩
  go_wp2_with fail
  go_ret
  exact ⟨by rw [← HN.out]; rfl, B0.out.trans (hb.mono B0.out.size)⟩
end Go.Proofs.YtjongcdlginjlaaGreatDoor
namespace Go.Proofs.YtjongcdlginjlaaGreatDoor
open Go.RowKit
theorem neqB {a b : List UInt8} (h : (a == b) = true) : (a != b) = false := by unfold bne; rw [h]; rfl
theorem neqB' {a b : List UInt8} (h : (a == b) = false) : (a != b) = true := by unfold bne; rw [h]; rfl
theorem ref11_Equal {S T : Blk} {x y : Shp} {cs ds : List Value} {w : World} (h : RShp.rd S w cs x) (h2 : RShp.rd T w ds y) :
    Calls Tryz.prog 74 #[.agg cs.toArray, .agg ds.toArray] w fun e w' => e = .returned (.bool (eqShp x y)) ∧ Below w.heap.size w w' := by
  obtain ⟨t, rfl, a, c, rfl, hs⟩ := h; obtain ⟨t2, rfl, a2, c2, rfl, hs2⟩ := h2; have hn := hs.small; have hn2 := hs2.small
  generalize hL : x.dims.length = n at *
  generalize hL2 : y.dims.length = n2 at *
  have B0 : Hid (Below w.heap.size w ((w.alloc (.cells #[.string x.row, .slice a n c] 37)).alloc (.cells #[.string y.row, .slice a2 n2 c2] 37))) := Lib.hid (((Below.refl _ _).alloc (by simp <;> omega) _).alloc (by simp <;> omega) _)
  have xa0 : ((w.alloc (.cells #[.string x.row, .slice a n c] 37)).alloc (.cells #[.string y.row, .slice a2 n2 c2] 37)).cell? ⟨w.heap.size, 0, none⟩ = some (.string x.row) := by simp [go_sem]
  have xa1 : ((w.alloc (.cells #[.string x.row, .slice a n c] 37)).alloc (.cells #[.string y.row, .slice a2 n2 c2] 37)).cell? ⟨w.heap.size, 1, none⟩ = some (.slice a n c) := by simp [go_sem]
  have xb0 : ((w.alloc (.cells #[.string x.row, .slice a n c] 37)).alloc (.cells #[.string y.row, .slice a2 n2 c2] 37)).cell? ⟨w.heap.size + 1, 0, none⟩ = some (.string y.row) := by simp [go_sem]
  have xb1 : ((w.alloc (.cells #[.string x.row, .slice a n c] 37)).alloc (.cells #[.string y.row, .slice a2 n2 c2] 37)).cell? ⟨w.heap.size + 1, 1, none⟩ = some (.slice a2 n2 c2) := by simp [go_sem]
  have hW0 : ((w.alloc (.cells #[.string x.row, .slice a n c] 37)).alloc (.cells #[.string y.row, .slice a2 n2 c2] 37)).heap.size = w.heap.size + 2 := by simp
  have H := Lib.hid (hs.below B0.out); have H2 := Lib.hid (hs2.below B0.out); have HL := Lib.hid hL; have HL2 := Lib.hid hL2
  have HN : Hid (eqShp x y = ((x.row.toList == y.row.toList) && eqList eqLin x.dims y.dims)) := Lib.hid rfl
  clear hs hs2 hL hL2
  by_cases hc : (x.row.toList == y.row.toList) = true
  case neg =>
    have hc : (x.row.toList == y.row.toList) = false := by simpa using hc
    have hcn := neqB' hc
    have HF : Hid (eqShp x y = false) := Lib.hid (by rw [HN.out, hc]; rfl)
    go_enter Tryz.func74, Tryz.ntmps74
    go_wp2_with fail
    go_ret
    exact ⟨by rw [HF.out]; rfl, B0.out⟩
  have hcn := neqB hc
  have HN : Hid (eqShp x y = eqList eqLin x.dims y.dims) := Lib.hid (by rw [HN.out, hc]; rfl)
  by_cases hnn : n = n2
  case neg =>
    have HF : Hid (eqShp x y = false) := Lib.hid (by rw [HN.out]; exact eq_len _ (by rw [HL.out, HL2.out]; exact hnn))
    have q : ((n : Int) != (n2 : Int)) = true := bne_iff_ne.2 (by omega)
    go_enter Tryz.func74, Tryz.ntmps74
    go_wp2_with fail
    go_ret
    exact ⟨by rw [HF.out]; rfl, B0.out⟩
  subst hnn
  have q : ((n : Int) != (n : Int)) = false := by simp
  go_enter Tryz.func74, Tryz.ntmps74
  go_wp2_with fail
  generalize ((w.alloc (.cells #[.string x.row, .slice a n c] 37)).alloc (.cells #[.string y.row, .slice a2 n c2] 37)) = W at *
  go_loopw [5] (fun i wr => ∃ k : Nat, k ≤ n ∧ i = .int .i64 k ∧ Hid (∀ j, j < k → eqLin (x.dims.getD j default) (y.dims.getD j default) = true) ∧ Below W.heap.size W wr) (fun i _ => n - (intOf i).toNat)
  case atStart => exact ⟨0, Nat.zero_le _, rfl, fun j hj => absurd hj (by omega), Below.refl _ _⟩
  case round =>
    obtain ⟨k, hk, rfl, HT, hB⟩ := hrel; have e1 := cellB xa1 _ hB; have f1 := cellB xb1 _ hB; have HW := Lib.hid (B0.out.trans (hB.mono B0.out.size))
    by_cases hlt : k < n
    · obtain ⟨b, off, rfl, hbW, _⟩ := H.out.form k hlt
      obtain ⟨b2, off2, rfl, hbW2, _⟩ := H2.out.form k hlt
      have HK : Hid (k < x.dims.length) := Lib.hid (by rw [HL.out]; exact hlt)
      have HK2 : Hid (k < y.dims.length) := Lib.hid (by rw [HL2.out]; exact hlt)
      have HR := Lib.hid (H.out.below hB); have HR2 := Lib.hid (H2.out.below hB); obtain ⟨t, hr, hd, c0, c1⟩ := HR.out.lin k hlt; obtain ⟨t2, hr2, hd2, d0, d1⟩ := HR2.out.lin k hlt
      have HH : Hid (eqLin (x.dims.getD k default) (y.dims.getD k default) = false → eqShp x y = false) := Lib.hid (fun q => by rw [HN.out]; exact eq_stop _ HK.out HK2.out q)
      have HG : Hid (eqLin (x.dims.getD k default) (y.dims.getD k default) = true → ∀ j, j < k + 1 → eqLin (x.dims.getD j default) (y.dims.getD j default) = true) := Lib.hid (fun q => upto HT.out q)
      have HRd := Lib.hid hr; have HRd2 := Lib.hid hr2; clear hd hr hd2 hr2 xa0 xa1 xb0 xb1
      generalize x.dims.getD k default = s at *
      generalize y.dims.getD k default = t at *
      have HC := Lib.hid (fun (u : Later wr) => ref04_Equal (RLin.below HRd.out u.b) (RLin.below HRd2.out u.b))
      have c0 := Later.cell c0; have c1 := Later.cell c1; have d0 := Later.cell d0; have d1 := Later.cell d1; have e1 := Later.cell e1; have f1 := Later.cell f1
      by_cases hq : eqLin s t = true
      · have HGo := Lib.hid (HG.out hq)
        rw [hq] at HC; clear hq
        go_wp2_with fail
        refine wp_region_later (by kernel_rfl) (by kernel_rfl) ?_
        repeat (go_big_quiet_step (first | fail | exact Later.call (HC.out _)))
        refine wpQuiet_nil ?_
        rintro _ ⟨t9, rfl⟩
        go_wp2_with fail
        go_roundw
        case rel => exact ⟨k + 1, by omega, by go_num, HGo, hB.trans (t9.b.mono hB.size)⟩
        case measure => simp [intOf]; omega
      · have hq : eqLin s t = false := by simpa using hq
        have HF := Lib.hid (HH.out hq); rw [hq] at HC; clear hq
        go_wp2_with fail
        refine wp_region_later (by kernel_rfl) (by kernel_rfl) ?_
        repeat (go_big_quiet_step (first | fail | exact Later.call (HC.out _)))
        refine wpQuiet_nil ?_
        rintro _ ⟨t9, rfl⟩
        go_wp2_with fail
        go_ret
        exact ⟨by rw [HF.out]; rfl, HW.out.trans (t9.b.mono HW.out.size)⟩
    · have HF : Hid (eqShp x y = true) := Lib.hid (by rw [HN.out]; exact eq_done _ (by rw [HL.out, HL2.out]) fun j hj => HT.out j (by rw [HL.out] at hj; omega))
      go_wp2_with fail
      go_ret
      exact ⟨by rw [HF.out]; rfl, HW.out⟩
theorem ref12_Equal {S T : Blk} {x y : Typ} {cs ds : List Value} {w : World} (h : RTyp.rd S w cs x) (h2 : RTyp.rd T w ds y) :
    Calls Tryz.prog 34 #[.agg cs.toArray, .agg ds.toArray] w fun e w' => e = .returned (.bool (eqTyp x y)) ∧ Below w.heap.size w w' := by
  obtain ⟨t, rfl, a, c, rfl, hs⟩ := h; obtain ⟨t2, rfl, a2, c2, rfl, hs2⟩ := h2
  have B0 : Hid (Below w.heap.size w ((w.alloc (.cells #[.string x.elem, .string x.shape.row, .slice a x.shape.dims.length c] 39)).alloc (.cells #[.string y.elem, .string y.shape.row, .slice a2 y.shape.dims.length c2] 39))) := Lib.hid (((Below.refl _ _).alloc (by simp <;> omega) _).alloc (by simp <;> omega) _)
  have xa0 : ((w.alloc (.cells #[.string x.elem, .string x.shape.row, .slice a x.shape.dims.length c] 39)).alloc (.cells #[.string y.elem, .string y.shape.row, .slice a2 y.shape.dims.length c2] 39)).cell? ⟨w.heap.size, 0, none⟩ = some (.string x.elem) := by simp [go_sem]
  have xa1 : ((w.alloc (.cells #[.string x.elem, .string x.shape.row, .slice a x.shape.dims.length c] 39)).alloc (.cells #[.string y.elem, .string y.shape.row, .slice a2 y.shape.dims.length c2] 39)).cell? ⟨w.heap.size, 1, none⟩ = some (.string x.shape.row) := by simp [go_sem]
  have xa2 : ((w.alloc (.cells #[.string x.elem, .string x.shape.row, .slice a x.shape.dims.length c] 39)).alloc (.cells #[.string y.elem, .string y.shape.row, .slice a2 y.shape.dims.length c2] 39)).cell? ⟨w.heap.size, 2, none⟩ = some (.slice a x.shape.dims.length c) := by simp [go_sem]
  have xb0 : ((w.alloc (.cells #[.string x.elem, .string x.shape.row, .slice a x.shape.dims.length c] 39)).alloc (.cells #[.string y.elem, .string y.shape.row, .slice a2 y.shape.dims.length c2] 39)).cell? ⟨w.heap.size + 1, 0, none⟩ = some (.string y.elem) := by simp [go_sem]
  have xb1 : ((w.alloc (.cells #[.string x.elem, .string x.shape.row, .slice a x.shape.dims.length c] 39)).alloc (.cells #[.string y.elem, .string y.shape.row, .slice a2 y.shape.dims.length c2] 39)).cell? ⟨w.heap.size + 1, 1, none⟩ = some (.string y.shape.row) := by simp [go_sem]
  have xb2 : ((w.alloc (.cells #[.string x.elem, .string x.shape.row, .slice a x.shape.dims.length c] 39)).alloc (.cells #[.string y.elem, .string y.shape.row, .slice a2 y.shape.dims.length c2] 39)).cell? ⟨w.heap.size + 1, 2, none⟩ = some (.slice a2 y.shape.dims.length c2) := by simp [go_sem]
  have hW0 : ((w.alloc (.cells #[.string x.elem, .string x.shape.row, .slice a x.shape.dims.length c] 39)).alloc (.cells #[.string y.elem, .string y.shape.row, .slice a2 y.shape.dims.length c2] 39)).heap.size = w.heap.size + 2 := by simp
  have HC := Lib.hid (ref11_Equal (x := x.shape) (y := y.shape) (S := S) (T := T) (cs := [.string x.shape.row, .slice a x.shape.dims.length c]) (ds := [.string y.shape.row, .slice a2 y.shape.dims.length c2]) ⟨_, rfl, a, c, rfl, hs.below B0.out⟩ ⟨_, rfl, a2, c2, rfl, hs2.below B0.out⟩)
  have HN : Hid (eqTyp x y = ((x.elem.toList == y.elem.toList) && eqShp x.shape y.shape)) := Lib.hid rfl
  clear hs hs2
  by_cases hc : (x.elem.toList == y.elem.toList) = true
  · have HF : Hid (eqTyp x y = eqShp x.shape y.shape) := Lib.hid (by rw [HN.out, hc]; rfl)
    go_enter Tryz.func34, Tryz.ntmps34
    go_wp2_with fail
    refine (HC.out).mono ?_
    rintro e w1 ⟨rfl, hb⟩
    go_wp2_with fail
    go_ret
    exact ⟨by rw [HF.out]; rfl, B0.out.trans (hb.mono B0.out.size)⟩
  · have hc : (x.elem.toList == y.elem.toList) = false := by simpa using hc
    have HF : Hid (eqTyp x y = false) := Lib.hid (by rw [HN.out, hc]; rfl)
    go_enter Tryz.func34, Tryz.ntmps34
    go_wp2_with fail
    go_ret
    exact ⟨by rw [HF.out]; rfl, B0.out⟩
end Go.Proofs.YtjongcdlginjlaaGreatDoor
namespace Go.Proofs.YtjongcdlginjlaaGreatDoor
open Go.RowKit
def eqEnt (a b : Ent) : Bool := seq a.name b.name && eqSch a.scheme b.scheme
def eqIfc (a b : Ifc) : Bool := seq a.module_ b.module_ && eqList eqEnt a.entries b.entries
theorem eqEnt_iff (a b : Ent) : eqEnt a b = true ↔ a = b := by
  unfold eqEnt
  rw [Bool.and_eq_true, seq_iff, eqSch_iff]
  constructor
  · rintro ⟨h1, h2⟩; cases a; cases b; simp_all
  · rintro rfl; exact ⟨rfl, rfl⟩
theorem eqIfc_iff (a b : Ifc) : eqIfc a b = true ↔ a = b := by
  unfold eqIfc
  rw [Bool.and_eq_true, seq_iff, eqList_iff _ eqEnt_iff]
  constructor
  · rintro ⟨h1, h2⟩; cases a; cases b; simp_all
  · rintro rfl; exact ⟨rfl, rfl⟩
theorem signature_Equal_1 {S T : Blk} {x y : Ent} {cs ds : List Value} {w : World} (h : REnt.rd S w cs x) (h2 : REnt.rd T w ds y) :
    Calls Tryz.prog 44 #[.agg cs.toArray, .agg ds.toArray] w fun e w' => e = .returned (.bool (eqEnt x y)) ∧ Below w.heap.size w w' := by
  obtain ⟨_, rfl, hx⟩ := h; obtain ⟨_, rfl, hy⟩ := h2; have HX := Lib.hid hx; have HY := Lib.hid hy; obtain ⟨_, _, _, rfl, ⟨ap, cp, rfl, _⟩, ⟨at_, ct, rfl, _⟩, ⟨aq, cq, rfl, _⟩⟩ := hx; obtain ⟨_, _, _, rfl, ⟨ap2, cp2, rfl, _⟩, ⟨at2, ct2, rfl, _⟩, ⟨aq2, cq2, rfl, _⟩⟩ := hy
  have B0 : Hid (Below w.heap.size w ((w.alloc (.cells #[.string x.name, .slice ap x.scheme.params.length cp, .string x.scheme.result.elem, .string x.scheme.result.shape.row, .slice at_ x.scheme.result.shape.dims.length ct, .slice aq x.scheme.wh.length cq] 43)).alloc (.cells #[.string y.name, .slice ap2 y.scheme.params.length cp2, .string y.scheme.result.elem, .string y.scheme.result.shape.row, .slice at2 y.scheme.result.shape.dims.length ct2, .slice aq2 y.scheme.wh.length cq2] 43))) := Lib.hid (((Below.refl _ _).alloc (by simp <;> omega) _).alloc (by simp <;> omega) _)
  have xa0 : ((w.alloc (.cells #[.string x.name, .slice ap x.scheme.params.length cp, .string x.scheme.result.elem, .string x.scheme.result.shape.row, .slice at_ x.scheme.result.shape.dims.length ct, .slice aq x.scheme.wh.length cq] 43)).alloc (.cells #[.string y.name, .slice ap2 y.scheme.params.length cp2, .string y.scheme.result.elem, .string y.scheme.result.shape.row, .slice at2 y.scheme.result.shape.dims.length ct2, .slice aq2 y.scheme.wh.length cq2] 43)).cell? ⟨w.heap.size, 0, none⟩ = some (.string x.name) := by simp [go_sem]
  have xa1 : ((w.alloc (.cells #[.string x.name, .slice ap x.scheme.params.length cp, .string x.scheme.result.elem, .string x.scheme.result.shape.row, .slice at_ x.scheme.result.shape.dims.length ct, .slice aq x.scheme.wh.length cq] 43)).alloc (.cells #[.string y.name, .slice ap2 y.scheme.params.length cp2, .string y.scheme.result.elem, .string y.scheme.result.shape.row, .slice at2 y.scheme.result.shape.dims.length ct2, .slice aq2 y.scheme.wh.length cq2] 43)).cell? ⟨w.heap.size, 1, none⟩ = some (.slice ap x.scheme.params.length cp) := by simp [go_sem]
  have xa2 : ((w.alloc (.cells #[.string x.name, .slice ap x.scheme.params.length cp, .string x.scheme.result.elem, .string x.scheme.result.shape.row, .slice at_ x.scheme.result.shape.dims.length ct, .slice aq x.scheme.wh.length cq] 43)).alloc (.cells #[.string y.name, .slice ap2 y.scheme.params.length cp2, .string y.scheme.result.elem, .string y.scheme.result.shape.row, .slice at2 y.scheme.result.shape.dims.length ct2, .slice aq2 y.scheme.wh.length cq2] 43)).cell? ⟨w.heap.size, 2, none⟩ = some (.string x.scheme.result.elem) := by simp [go_sem]
  have xa3 : ((w.alloc (.cells #[.string x.name, .slice ap x.scheme.params.length cp, .string x.scheme.result.elem, .string x.scheme.result.shape.row, .slice at_ x.scheme.result.shape.dims.length ct, .slice aq x.scheme.wh.length cq] 43)).alloc (.cells #[.string y.name, .slice ap2 y.scheme.params.length cp2, .string y.scheme.result.elem, .string y.scheme.result.shape.row, .slice at2 y.scheme.result.shape.dims.length ct2, .slice aq2 y.scheme.wh.length cq2] 43)).cell? ⟨w.heap.size, 3, none⟩ = some (.string x.scheme.result.shape.row) := by simp [go_sem]
  have xa4 : ((w.alloc (.cells #[.string x.name, .slice ap x.scheme.params.length cp, .string x.scheme.result.elem, .string x.scheme.result.shape.row, .slice at_ x.scheme.result.shape.dims.length ct, .slice aq x.scheme.wh.length cq] 43)).alloc (.cells #[.string y.name, .slice ap2 y.scheme.params.length cp2, .string y.scheme.result.elem, .string y.scheme.result.shape.row, .slice at2 y.scheme.result.shape.dims.length ct2, .slice aq2 y.scheme.wh.length cq2] 43)).cell? ⟨w.heap.size, 4, none⟩ = some (.slice at_ x.scheme.result.shape.dims.length ct) := by simp [go_sem]
  have xa5 : ((w.alloc (.cells #[.string x.name, .slice ap x.scheme.params.length cp, .string x.scheme.result.elem, .string x.scheme.result.shape.row, .slice at_ x.scheme.result.shape.dims.length ct, .slice aq x.scheme.wh.length cq] 43)).alloc (.cells #[.string y.name, .slice ap2 y.scheme.params.length cp2, .string y.scheme.result.elem, .string y.scheme.result.shape.row, .slice at2 y.scheme.result.shape.dims.length ct2, .slice aq2 y.scheme.wh.length cq2] 43)).cell? ⟨w.heap.size, 5, none⟩ = some (.slice aq x.scheme.wh.length cq) := by simp [go_sem]
  have xb0 : ((w.alloc (.cells #[.string x.name, .slice ap x.scheme.params.length cp, .string x.scheme.result.elem, .string x.scheme.result.shape.row, .slice at_ x.scheme.result.shape.dims.length ct, .slice aq x.scheme.wh.length cq] 43)).alloc (.cells #[.string y.name, .slice ap2 y.scheme.params.length cp2, .string y.scheme.result.elem, .string y.scheme.result.shape.row, .slice at2 y.scheme.result.shape.dims.length ct2, .slice aq2 y.scheme.wh.length cq2] 43)).cell? ⟨w.heap.size + 1, 0, none⟩ = some (.string y.name) := by simp [go_sem]
  have xb1 : ((w.alloc (.cells #[.string x.name, .slice ap x.scheme.params.length cp, .string x.scheme.result.elem, .string x.scheme.result.shape.row, .slice at_ x.scheme.result.shape.dims.length ct, .slice aq x.scheme.wh.length cq] 43)).alloc (.cells #[.string y.name, .slice ap2 y.scheme.params.length cp2, .string y.scheme.result.elem, .string y.scheme.result.shape.row, .slice at2 y.scheme.result.shape.dims.length ct2, .slice aq2 y.scheme.wh.length cq2] 43)).cell? ⟨w.heap.size + 1, 1, none⟩ = some (.slice ap2 y.scheme.params.length cp2) := by simp [go_sem]
  have xb2 : ((w.alloc (.cells #[.string x.name, .slice ap x.scheme.params.length cp, .string x.scheme.result.elem, .string x.scheme.result.shape.row, .slice at_ x.scheme.result.shape.dims.length ct, .slice aq x.scheme.wh.length cq] 43)).alloc (.cells #[.string y.name, .slice ap2 y.scheme.params.length cp2, .string y.scheme.result.elem, .string y.scheme.result.shape.row, .slice at2 y.scheme.result.shape.dims.length ct2, .slice aq2 y.scheme.wh.length cq2] 43)).cell? ⟨w.heap.size + 1, 2, none⟩ = some (.string y.scheme.result.elem) := by simp [go_sem]
  have xb3 : ((w.alloc (.cells #[.string x.name, .slice ap x.scheme.params.length cp, .string x.scheme.result.elem, .string x.scheme.result.shape.row, .slice at_ x.scheme.result.shape.dims.length ct, .slice aq x.scheme.wh.length cq] 43)).alloc (.cells #[.string y.name, .slice ap2 y.scheme.params.length cp2, .string y.scheme.result.elem, .string y.scheme.result.shape.row, .slice at2 y.scheme.result.shape.dims.length ct2, .slice aq2 y.scheme.wh.length cq2] 43)).cell? ⟨w.heap.size + 1, 3, none⟩ = some (.string y.scheme.result.shape.row) := by simp [go_sem]
  have xb4 : ((w.alloc (.cells #[.string x.name, .slice ap x.scheme.params.length cp, .string x.scheme.result.elem, .string x.scheme.result.shape.row, .slice at_ x.scheme.result.shape.dims.length ct, .slice aq x.scheme.wh.length cq] 43)).alloc (.cells #[.string y.name, .slice ap2 y.scheme.params.length cp2, .string y.scheme.result.elem, .string y.scheme.result.shape.row, .slice at2 y.scheme.result.shape.dims.length ct2, .slice aq2 y.scheme.wh.length cq2] 43)).cell? ⟨w.heap.size + 1, 4, none⟩ = some (.slice at2 y.scheme.result.shape.dims.length ct2) := by simp [go_sem]
  have xb5 : ((w.alloc (.cells #[.string x.name, .slice ap x.scheme.params.length cp, .string x.scheme.result.elem, .string x.scheme.result.shape.row, .slice at_ x.scheme.result.shape.dims.length ct, .slice aq x.scheme.wh.length cq] 43)).alloc (.cells #[.string y.name, .slice ap2 y.scheme.params.length cp2, .string y.scheme.result.elem, .string y.scheme.result.shape.row, .slice at2 y.scheme.result.shape.dims.length ct2, .slice aq2 y.scheme.wh.length cq2] 43)).cell? ⟨w.heap.size + 1, 5, none⟩ = some (.slice aq2 y.scheme.wh.length cq2) := by simp [go_sem]
  have hW0 : ((w.alloc (.cells #[.string x.name, .slice ap x.scheme.params.length cp, .string x.scheme.result.elem, .string x.scheme.result.shape.row, .slice at_ x.scheme.result.shape.dims.length ct, .slice aq x.scheme.wh.length cq] 43)).alloc (.cells #[.string y.name, .slice ap2 y.scheme.params.length cp2, .string y.scheme.result.elem, .string y.scheme.result.shape.row, .slice at2 y.scheme.result.shape.dims.length ct2, .slice aq2 y.scheme.wh.length cq2] 43)).heap.size = w.heap.size + 2 := by simp
  have HC := Lib.hid (types_EqualScheme (RSch.below HX.out B0.out) (RSch.below HY.out B0.out))
  have HN : Hid (eqEnt x y = ((x.name.toList == y.name.toList) && eqSch x.scheme y.scheme)) := Lib.hid rfl
  by_cases hc : (x.name.toList == y.name.toList) = true
  · have HF : Hid (eqEnt x y = eqSch x.scheme y.scheme) := Lib.hid (by rw [HN.out, hc]; rfl)
    go_enter Tryz.func44, Tryz.ntmps44
    go_wp2_with fail
    refine (HC.out).mono ?_
    rintro e w1 ⟨rfl, hb⟩
    go_wp2_with fail
    go_ret
    exact ⟨by rw [HF.out]; rfl, B0.out.trans (hb.mono B0.out.size)⟩
  · have hc : (x.name.toList == y.name.toList) = false := by simpa using hc
    have HF : Hid (eqEnt x y = false) := Lib.hid (by rw [HN.out, hc]; rfl)
    go_enter Tryz.func44, Tryz.ntmps44
    go_wp2_with fail
    go_ret
    exact ⟨by rw [HF.out]; rfl, B0.out⟩
theorem signature_byName {S T : Blk} {x y : Ent} {cs ds : List Value} {w : World} (h : REnt.rd S w cs x) (h2 : REnt.rd T w ds y) :
    Calls Tryz.prog 26 #[.agg cs.toArray, .agg ds.toArray] w fun e w' => e = .returned (.int .i64 (cmpS x.name y.name)) ∧ Below w.heap.size w w' := by
  obtain ⟨_, rfl, hx⟩ := h; obtain ⟨_, rfl, hy⟩ := h2; obtain ⟨_, _, _, rfl, ⟨ap, cp, rfl, _⟩, ⟨at_, ct, rfl, _⟩, ⟨aq, cq, rfl, _⟩⟩ := hx; obtain ⟨_, _, _, rfl, ⟨ap2, cp2, rfl, _⟩, ⟨at2, ct2, rfl, _⟩, ⟨aq2, cq2, rfl, _⟩⟩ := hy
  have B0 : Hid (Below w.heap.size w ((w.alloc (.cells #[.string x.name, .slice ap x.scheme.params.length cp, .string x.scheme.result.elem, .string x.scheme.result.shape.row, .slice at_ x.scheme.result.shape.dims.length ct, .slice aq x.scheme.wh.length cq] 43)).alloc (.cells #[.string y.name, .slice ap2 y.scheme.params.length cp2, .string y.scheme.result.elem, .string y.scheme.result.shape.row, .slice at2 y.scheme.result.shape.dims.length ct2, .slice aq2 y.scheme.wh.length cq2] 43))) := Lib.hid (((Below.refl _ _).alloc (by simp <;> omega) _).alloc (by simp <;> omega) _)
  have xa0 : ((w.alloc (.cells #[.string x.name, .slice ap x.scheme.params.length cp, .string x.scheme.result.elem, .string x.scheme.result.shape.row, .slice at_ x.scheme.result.shape.dims.length ct, .slice aq x.scheme.wh.length cq] 43)).alloc (.cells #[.string y.name, .slice ap2 y.scheme.params.length cp2, .string y.scheme.result.elem, .string y.scheme.result.shape.row, .slice at2 y.scheme.result.shape.dims.length ct2, .slice aq2 y.scheme.wh.length cq2] 43)).cell? ⟨w.heap.size, 0, none⟩ = some (.string x.name) := by simp [go_sem]
  have xa1 : ((w.alloc (.cells #[.string x.name, .slice ap x.scheme.params.length cp, .string x.scheme.result.elem, .string x.scheme.result.shape.row, .slice at_ x.scheme.result.shape.dims.length ct, .slice aq x.scheme.wh.length cq] 43)).alloc (.cells #[.string y.name, .slice ap2 y.scheme.params.length cp2, .string y.scheme.result.elem, .string y.scheme.result.shape.row, .slice at2 y.scheme.result.shape.dims.length ct2, .slice aq2 y.scheme.wh.length cq2] 43)).cell? ⟨w.heap.size, 1, none⟩ = some (.slice ap x.scheme.params.length cp) := by simp [go_sem]
  have xa2 : ((w.alloc (.cells #[.string x.name, .slice ap x.scheme.params.length cp, .string x.scheme.result.elem, .string x.scheme.result.shape.row, .slice at_ x.scheme.result.shape.dims.length ct, .slice aq x.scheme.wh.length cq] 43)).alloc (.cells #[.string y.name, .slice ap2 y.scheme.params.length cp2, .string y.scheme.result.elem, .string y.scheme.result.shape.row, .slice at2 y.scheme.result.shape.dims.length ct2, .slice aq2 y.scheme.wh.length cq2] 43)).cell? ⟨w.heap.size, 2, none⟩ = some (.string x.scheme.result.elem) := by simp [go_sem]
  have xa3 : ((w.alloc (.cells #[.string x.name, .slice ap x.scheme.params.length cp, .string x.scheme.result.elem, .string x.scheme.result.shape.row, .slice at_ x.scheme.result.shape.dims.length ct, .slice aq x.scheme.wh.length cq] 43)).alloc (.cells #[.string y.name, .slice ap2 y.scheme.params.length cp2, .string y.scheme.result.elem, .string y.scheme.result.shape.row, .slice at2 y.scheme.result.shape.dims.length ct2, .slice aq2 y.scheme.wh.length cq2] 43)).cell? ⟨w.heap.size, 3, none⟩ = some (.string x.scheme.result.shape.row) := by simp [go_sem]
  have xa4 : ((w.alloc (.cells #[.string x.name, .slice ap x.scheme.params.length cp, .string x.scheme.result.elem, .string x.scheme.result.shape.row, .slice at_ x.scheme.result.shape.dims.length ct, .slice aq x.scheme.wh.length cq] 43)).alloc (.cells #[.string y.name, .slice ap2 y.scheme.params.length cp2, .string y.scheme.result.elem, .string y.scheme.result.shape.row, .slice at2 y.scheme.result.shape.dims.length ct2, .slice aq2 y.scheme.wh.length cq2] 43)).cell? ⟨w.heap.size, 4, none⟩ = some (.slice at_ x.scheme.result.shape.dims.length ct) := by simp [go_sem]
  have xa5 : ((w.alloc (.cells #[.string x.name, .slice ap x.scheme.params.length cp, .string x.scheme.result.elem, .string x.scheme.result.shape.row, .slice at_ x.scheme.result.shape.dims.length ct, .slice aq x.scheme.wh.length cq] 43)).alloc (.cells #[.string y.name, .slice ap2 y.scheme.params.length cp2, .string y.scheme.result.elem, .string y.scheme.result.shape.row, .slice at2 y.scheme.result.shape.dims.length ct2, .slice aq2 y.scheme.wh.length cq2] 43)).cell? ⟨w.heap.size, 5, none⟩ = some (.slice aq x.scheme.wh.length cq) := by simp [go_sem]
  have xb0 : ((w.alloc (.cells #[.string x.name, .slice ap x.scheme.params.length cp, .string x.scheme.result.elem, .string x.scheme.result.shape.row, .slice at_ x.scheme.result.shape.dims.length ct, .slice aq x.scheme.wh.length cq] 43)).alloc (.cells #[.string y.name, .slice ap2 y.scheme.params.length cp2, .string y.scheme.result.elem, .string y.scheme.result.shape.row, .slice at2 y.scheme.result.shape.dims.length ct2, .slice aq2 y.scheme.wh.length cq2] 43)).cell? ⟨w.heap.size + 1, 0, none⟩ = some (.string y.name) := by simp [go_sem]
  have xb1 : ((w.alloc (.cells #[.string x.name, .slice ap x.scheme.params.length cp, .string x.scheme.result.elem, .string x.scheme.result.shape.row, .slice at_ x.scheme.result.shape.dims.length ct, .slice aq x.scheme.wh.length cq] 43)).alloc (.cells #[.string y.name, .slice ap2 y.scheme.params.length cp2, .string y.scheme.result.elem, .string y.scheme.result.shape.row, .slice at2 y.scheme.result.shape.dims.length ct2, .slice aq2 y.scheme.wh.length cq2] 43)).cell? ⟨w.heap.size + 1, 1, none⟩ = some (.slice ap2 y.scheme.params.length cp2) := by simp [go_sem]
  have xb2 : ((w.alloc (.cells #[.string x.name, .slice ap x.scheme.params.length cp, .string x.scheme.result.elem, .string x.scheme.result.shape.row, .slice at_ x.scheme.result.shape.dims.length ct, .slice aq x.scheme.wh.length cq] 43)).alloc (.cells #[.string y.name, .slice ap2 y.scheme.params.length cp2, .string y.scheme.result.elem, .string y.scheme.result.shape.row, .slice at2 y.scheme.result.shape.dims.length ct2, .slice aq2 y.scheme.wh.length cq2] 43)).cell? ⟨w.heap.size + 1, 2, none⟩ = some (.string y.scheme.result.elem) := by simp [go_sem]
  have xb3 : ((w.alloc (.cells #[.string x.name, .slice ap x.scheme.params.length cp, .string x.scheme.result.elem, .string x.scheme.result.shape.row, .slice at_ x.scheme.result.shape.dims.length ct, .slice aq x.scheme.wh.length cq] 43)).alloc (.cells #[.string y.name, .slice ap2 y.scheme.params.length cp2, .string y.scheme.result.elem, .string y.scheme.result.shape.row, .slice at2 y.scheme.result.shape.dims.length ct2, .slice aq2 y.scheme.wh.length cq2] 43)).cell? ⟨w.heap.size + 1, 3, none⟩ = some (.string y.scheme.result.shape.row) := by simp [go_sem]
  have xb4 : ((w.alloc (.cells #[.string x.name, .slice ap x.scheme.params.length cp, .string x.scheme.result.elem, .string x.scheme.result.shape.row, .slice at_ x.scheme.result.shape.dims.length ct, .slice aq x.scheme.wh.length cq] 43)).alloc (.cells #[.string y.name, .slice ap2 y.scheme.params.length cp2, .string y.scheme.result.elem, .string y.scheme.result.shape.row, .slice at2 y.scheme.result.shape.dims.length ct2, .slice aq2 y.scheme.wh.length cq2] 43)).cell? ⟨w.heap.size + 1, 4, none⟩ = some (.slice at2 y.scheme.result.shape.dims.length ct2) := by simp [go_sem]
  have xb5 : ((w.alloc (.cells #[.string x.name, .slice ap x.scheme.params.length cp, .string x.scheme.result.elem, .string x.scheme.result.shape.row, .slice at_ x.scheme.result.shape.dims.length ct, .slice aq x.scheme.wh.length cq] 43)).alloc (.cells #[.string y.name, .slice ap2 y.scheme.params.length cp2, .string y.scheme.result.elem, .string y.scheme.result.shape.row, .slice at2 y.scheme.result.shape.dims.length ct2, .slice aq2 y.scheme.wh.length cq2] 43)).cell? ⟨w.heap.size + 1, 5, none⟩ = some (.slice aq2 y.scheme.wh.length cq2) := by simp [go_sem]
  have hW0 : ((w.alloc (.cells #[.string x.name, .slice ap x.scheme.params.length cp, .string x.scheme.result.elem, .string x.scheme.result.shape.row, .slice at_ x.scheme.result.shape.dims.length ct, .slice aq x.scheme.wh.length cq] 43)).alloc (.cells #[.string y.name, .slice ap2 y.scheme.params.length cp2, .string y.scheme.result.elem, .string y.scheme.result.shape.row, .slice at2 y.scheme.result.shape.dims.length ct2, .slice aq2 y.scheme.wh.length cq2] 43)).heap.size = w.heap.size + 2 := by simp
  go_enter Tryz.func26, Tryz.ntmps26
  go_wp2_with fail
  refine (strings_cmp _ _ _).mono ?_
  rintro e _ ⟨rfl, rfl⟩
  go_wp2_with fail
  go_ret
  exact ⟨rfl, B0.out⟩
theorem signature_Equal {S T : Blk} {x y : Ifc} {a a2 : Option Addr} {c c2 : Nat} {w : World} (hs : Sl REnt S w a x.entries.length c x.entries) (hs2 : Sl REnt T w a2 y.entries.length c2 y.entries) :
    Calls Tryz.prog 22 #[.agg #[.string x.module_, .slice a x.entries.length c], .agg #[.string y.module_, .slice a2 y.entries.length c2]] w fun e w' => e = .returned (.bool (eqIfc x y)) ∧ Below w.heap.size w w' := by
  have B0 : Hid (Below w.heap.size w ((w.alloc (.cells #[.string x.module_, .slice a x.entries.length c] 29)).alloc (.cells #[.string y.module_, .slice a2 y.entries.length c2] 29))) := Lib.hid (((Below.refl _ _).alloc (by simp <;> omega) _).alloc (by simp <;> omega) _)
  have xa0 : ((w.alloc (.cells #[.string x.module_, .slice a x.entries.length c] 29)).alloc (.cells #[.string y.module_, .slice a2 y.entries.length c2] 29)).cell? ⟨w.heap.size, 0, none⟩ = some (.string x.module_) := by simp [go_sem]
  have xa1 : ((w.alloc (.cells #[.string x.module_, .slice a x.entries.length c] 29)).alloc (.cells #[.string y.module_, .slice a2 y.entries.length c2] 29)).cell? ⟨w.heap.size, 1, none⟩ = some (.slice a x.entries.length c) := by simp [go_sem]
  have xb0 : ((w.alloc (.cells #[.string x.module_, .slice a x.entries.length c] 29)).alloc (.cells #[.string y.module_, .slice a2 y.entries.length c2] 29)).cell? ⟨w.heap.size + 1, 0, none⟩ = some (.string y.module_) := by simp [go_sem]
  have xb1 : ((w.alloc (.cells #[.string x.module_, .slice a x.entries.length c] 29)).alloc (.cells #[.string y.module_, .slice a2 y.entries.length c2] 29)).cell? ⟨w.heap.size + 1, 1, none⟩ = some (.slice a2 y.entries.length c2) := by simp [go_sem]
  have hW0 : ((w.alloc (.cells #[.string x.module_, .slice a x.entries.length c] 29)).alloc (.cells #[.string y.module_, .slice a2 y.entries.length c2] 29)).heap.size = w.heap.size + 2 := by simp
  have HC := Lib.hid (equal_Ent x.entries y.entries a a2 _ _ c c2 _ (hs.below B0.out) (hs2.below B0.out) _ (enter_any Tryz.func44 rfl rfl) eqEnt (fun W x y cs ds _ _ _ h1 h2 => signature_Equal_1 h1 h2))
  have HN : Hid (eqIfc x y = ((x.module_.toList == y.module_.toList) && eqList eqEnt x.entries y.entries)) := Lib.hid rfl
  clear hs hs2
  by_cases hc : (x.module_.toList == y.module_.toList) = true
  · have HF : Hid (eqIfc x y = eqList eqEnt x.entries y.entries) := Lib.hid (by rw [HN.out, hc]; rfl)
    go_enter Tryz.func22, Tryz.ntmps22
    go_wp2_with fail
    refine (HC.out).mono ?_
    rintro e w1 ⟨rfl, hb⟩
    go_wp2_with fail
    go_ret
    exact ⟨by rw [HF.out]; rfl, B0.out.trans (hb.mono B0.out.size)⟩
  · have hc : (x.module_.toList == y.module_.toList) = false := by simpa using hc
    have HF : Hid (eqIfc x y = false) := Lib.hid (by rw [HN.out, hc]; rfl)
    go_enter Tryz.func22, Tryz.ntmps22
    go_wp2_with fail
    go_ret
    exact ⟨by rw [HF.out]; rfl, B0.out⟩
end Go.Proofs.YtjongcdlginjlaaGreatDoor
namespace Go.Proofs.YtjongcdlginjlaaGreatDoor
open Go.RowKit
def coefAt : List Coef → Str → Int
  | [], _ => 0
  | t :: l, v => if seq t.v v then t.c else coefAt l v
def Srt (l : List Coef) : Prop := l.Pairwise fun a b => slt a.v b.v = true
def Nz (l : List Coef) : Prop := ∀ t ∈ l, t.c ≠ 0
def Bd (n : Int) (l : List Coef) : Prop := ∀ t ∈ l, -n ≤ t.c ∧ t.c ≤ n
def plusStep (s : Str) (c : Int) (p : Bool × List Coef) (t : Coef) : Bool × List Coef :=
  if seq t.v s then (true, (if !p.1 && slt s t.v then p.2 ++ [⟨s, c⟩] else p.2) ++ [⟨t.v, t.c + c⟩])
  else (p.1 || slt s t.v, (if !p.1 && slt s t.v then p.2 ++ [⟨s, c⟩] else p.2) ++ [t])
def plusRun (s : Str) (c : Int) (l : List Coef) : Bool × List Coef := l.foldl (plusStep s c) (false, [])
def plusF (l : List Coef) (s : Str) (c : Int) : List Coef := if (plusRun s c l).1 then (plusRun s c l).2 else (plusRun s c l).2 ++ [⟨s, c⟩]
def nzB (t : Coef) : Bool := t.c != 0
def plus (l : List Coef) (s : Str) (c : Int) : List Coef := (plusF l s c).filter nzB
def ins (s : Str) (c : Int) : List Coef → List Coef
  | [] => [⟨s, c⟩]
  | t :: l => if slt s t.v then ⟨s, c⟩ :: t :: l else if seq t.v s then ⟨t.v, t.c + c⟩ :: l else t :: ins s c l
theorem slt_ne {a b : Str} (h : slt a b = true) : seq a b = false := by
  rw [Bool.eq_false_iff]
  intro e
  rw [(seq_iff a b).1 e, slt_irrefl] at h
  cases h
theorem slt_ne' {a b : Str} (h : slt a b = true) : seq b a = false := by rw [seq_comm]; exact slt_ne h
theorem run_put (s : Str) (c : Int) : ∀ (l : List Coef) (acc : List Coef), (∀ t ∈ l, slt s t.v = true) → l.foldl (plusStep s c) (true, acc) = (true, acc ++ l)
  | [], acc, _ => by simp
  | t :: l, acc, h => by
    have ht := h t (List.mem_cons_self ..); rw [List.foldl_cons]
    have : plusStep s c (true, acc) t = (true, acc ++ [t]) := by
      unfold plusStep
      rw [slt_ne' ht]; simp
    rw [this, run_put s c l _ (fun u hu => h u (List.mem_cons_of_mem _ hu))]
    simp
theorem run_srt (s : Str) (c : Int) : ∀ (l : List Coef) (acc : List Coef), Srt l → (let p := l.foldl (plusStep s c) (false, acc); if p.1 then p.2 else p.2 ++ [⟨s, c⟩]) = acc ++ ins s c l
  | [], acc, _ => by simp [ins]
  | t :: l, acc, h => by
    have h1 := (List.pairwise_cons.1 h).1; have h2 := (List.pairwise_cons.1 h).2; rw [List.foldl_cons]
    by_cases hs : slt s t.v = true
    · have : plusStep s c (false, acc) t = (true, acc ++ [⟨s, c⟩] ++ [t]) := by
        unfold plusStep
        rw [slt_ne' hs, hs]; simp
      rw [this, run_put s c l _ (fun u hu => slt_trans hs (h1 u hu))]
      simp [ins, hs]
    · have hs : slt s t.v = false := by simpa using hs
      by_cases he : seq t.v s = true
      · have : plusStep s c (false, acc) t = (true, acc ++ [⟨t.v, t.c + c⟩]) := by
          unfold plusStep
          rw [he, hs]; simp
        have hv := (seq_iff _ _).1 he
        rw [this, run_put s c l _ (fun u hu => hv ▸ h1 u hu)]
        simp [ins, hs, he]
      · have he : seq t.v s = false := by simpa using he
        have : plusStep s c (false, acc) t = (false, acc ++ [t]) := by
          unfold plusStep
          rw [he, hs]; simp
        rw [this, run_srt s c l _ h2]
        simp [ins, hs, he]
theorem plusF_srt {l : List Coef} (h : Srt l) (s : Str) (c : Int) : plusF l s c = ins s c l := by
  have := run_srt s c l [] h
  rw [List.nil_append] at this
  exact this
theorem ins_mem (s : Str) (c : Int) : ∀ (l : List Coef) (t : Coef), t ∈ ins s c l → t.v = s ∨ t ∈ l
  | [], t, h => by simp [ins] at h; subst h; exact .inl rfl
  | u :: l, t, h => by
    unfold ins at h
    split at h
    · rcases List.mem_cons.1 h with rfl | h
      · exact .inl rfl
      · exact .inr h
    · split at h
      · next he =>
        rcases List.mem_cons.1 h with rfl | h
        · exact .inl ((seq_iff _ _).1 he)
        · exact .inr (List.mem_cons_of_mem _ h)
      · rcases List.mem_cons.1 h with rfl | h
        · exact .inr (List.mem_cons_self ..)
        · rcases ins_mem s c l t h with q | q
          · exact .inl q
          · exact .inr (List.mem_cons_of_mem _ q)
theorem ins_srt (s : Str) (c : Int) : ∀ (l : List Coef), Srt l → Srt (ins s c l)
  | [], _ => by simp [ins, Srt]
  | t :: l, h => by
    have h1 := (List.pairwise_cons.1 h).1; have h2 := (List.pairwise_cons.1 h).2
    unfold ins
    split
    · next hs => exact List.pairwise_cons.2 ⟨fun u hu => by
        rcases List.mem_cons.1 hu with rfl | hu
        · exact hs
        · exact slt_trans hs (h1 u hu), h⟩
    · next hs =>
      split
      · exact List.pairwise_cons.2 ⟨h1, h2⟩
      · next he =>
        refine List.pairwise_cons.2 ⟨fun u hu => ?_, ins_srt s c l h2⟩
        rcases ins_mem s c l u hu with q | q
        · rw [q]
          cases hq : slt t.v s with
          | true => rfl
          | false => exact absurd ((seq_iff _ _).2 (slt_total hq (by simpa using hs))) he
        · exact h1 u q
theorem coefAt_none : ∀ (l : List Coef) (v : Str), (∀ t ∈ l, seq t.v v = false) → coefAt l v = 0
  | [], _, _ => rfl
  | t :: l, v, h => by
    unfold coefAt
    rw [h t (List.mem_cons_self ..)]
    exact coefAt_none l v (fun u hu => h u (List.mem_cons_of_mem _ hu))
theorem seq_trans_eq {a b v : Str} (h : seq a b = true) : seq a v = seq b v := by rw [(seq_iff a b).1 h]
theorem ins_coef (s : Str) (c : Int) (v : Str) : ∀ (l : List Coef), Srt l → coefAt (ins s c l) v = coefAt l v + if seq s v then c else 0
  | [], _ => by simp [ins, coefAt]
  | t :: l, h => by
    have h1 := (List.pairwise_cons.1 h).1; have h2 := (List.pairwise_cons.1 h).2
    unfold ins
    split
    · next hs =>
      by_cases hv : seq s v = true
      · have : coefAt (t :: l) v = 0 := coefAt_none _ _ (fun u hu => by
          rw [← seq_comm, ← seq_trans_eq hv, ]
          rcases List.mem_cons.1 hu with rfl | hu
          · exact slt_ne hs
          · exact slt_ne (slt_trans hs (h1 u hu)))
        rw [this, hv]
        simp [coefAt, hv]
      · have hv : seq s v = false := by simpa using hv
        rw [hv]
        conv => lhs; unfold coefAt
        rw [hv]
        simp
    · split
      · next he =>
        conv => lhs; unfold coefAt
        conv => rhs; unfold coefAt
        show (if seq t.v v then t.c + c else coefAt l v) = _
        rw [seq_trans_eq he]
        split <;> simp
      · next he =>
        conv => lhs; unfold coefAt
        conv => rhs; unfold coefAt
        rw [ins_coef s c v l h2]
        split
        · next hv =>
          have : seq s v = false := by
            rw [Bool.eq_false_iff]
            intro q
            exact he ((seq_iff _ _).2 (((seq_iff _ _).1 hv).trans ((seq_iff _ _).1 q).symm))
          rw [this]; simp
        · rfl
theorem filter_coef (v : Str) : ∀ (l : List Coef), Srt l → coefAt (l.filter nzB) v = coefAt l v
  | [], _ => rfl
  | t :: l, h => by
    have h1 := (List.pairwise_cons.1 h).1; have h2 := (List.pairwise_cons.1 h).2; rw [List.filter_cons]
    split
    · unfold coefAt; rw [filter_coef v l h2]
    · next hz =>
      have hz : t.c = 0 := by simpa [nzB] using hz
      conv => rhs; unfold coefAt
      rw [filter_coef v l h2]
      split
      · next hv => rw [hz]; exact coefAt_none _ _ (fun u hu => by rw [seq_comm, ← seq_trans_eq hv]; exact slt_ne (h1 u hu))
      · rfl
theorem filter_srt {l : List Coef} (h : Srt l) : Srt (l.filter nzB) := List.Pairwise.sublist List.filter_sublist h
theorem filter_nz (l : List Coef) : Nz (l.filter nzB) := fun t ht => by
  have := (List.mem_filter.1 ht).2
  simpa [nzB] using this
theorem plus_srt {l : List Coef} (h : Srt l) (s : Str) (c : Int) : Srt (plus l s c) := by
  unfold plus; rw [plusF_srt h]; exact filter_srt (ins_srt s c l h)
theorem plus_nz (l : List Coef) (s : Str) (c : Int) : Nz (plus l s c) := filter_nz _
theorem plus_coef {l : List Coef} (h : Srt l) (s : Str) (c : Int) (v : Str) : coefAt (plus l s c) v = coefAt l v + if seq s v then c else 0 := by
  unfold plus; rw [plusF_srt h, filter_coef v _ (ins_srt s c l h), ins_coef s c v l h]
theorem coefAt_mem {l : List Coef} (h : Srt l) {t : Coef} (ht : t ∈ l) : coefAt l t.v = t.c := by
  induction l with
  | nil => cases ht
  | cons u l ih =>
    have h1 := (List.pairwise_cons.1 h).1; have h2 := (List.pairwise_cons.1 h).2
    unfold coefAt
    rcases List.mem_cons.1 ht with rfl | ht
    · rw [seq_refl]; rfl
    · rw [slt_ne (h1 t ht)]; exact ih h2 ht
theorem mem_coefAt {l : List Coef} {v : Str} (h : coefAt l v ≠ 0) : ∃ t ∈ l, t.v = v := by
  induction l with
  | nil => exact absurd rfl h
  | cons u l ih =>
    unfold coefAt at h
    split at h
    · next q => exact ⟨u, List.mem_cons_self .., (seq_iff _ _).1 q⟩
    · obtain ⟨t, ht, e⟩ := ih h
      exact ⟨t, List.mem_cons_of_mem _ ht, e⟩
theorem srt_ext : ∀ (l l2 : List Coef), Srt l → Srt l2 → Nz l → Nz l2 → (∀ v, coefAt l v = coefAt l2 v) → l = l2
  | [], [], _, _, _, _, _ => rfl
  | [], b :: l2, _, h2, _, n2, e => by
    have := e b.v
    rw [coefAt_mem h2 (List.mem_cons_self ..)] at this
    exact absurd this.symm (n2 b (List.mem_cons_self ..))
  | a :: l, [], h1, _, n1, _, e => by
    have := e a.v
    rw [coefAt_mem h1 (List.mem_cons_self ..)] at this
    exact absurd this (n1 a (List.mem_cons_self ..))
  | a :: l, b :: l2, h1, h2, n1, n2, e => by
    have p1 := (List.pairwise_cons.1 h1).1; have p2 := (List.pairwise_cons.1 h2).1; have ea := e a.v; rw [coefAt_mem h1 (List.mem_cons_self ..)] at ea; have eb := e b.v; rw [coefAt_mem h2 (List.mem_cons_self ..)] at eb
    obtain ⟨ta, hta, va⟩ := mem_coefAt (l := b :: l2) (v := a.v) (by rw [← ea]; exact n1 a (List.mem_cons_self ..))
    obtain ⟨tb, htb, vb⟩ := mem_coefAt (l := a :: l) (v := b.v) (by rw [eb]; exact n2 b (List.mem_cons_self ..))
    have hv : a.v = b.v := by
      rcases List.mem_cons.1 hta with rfl | hta
      · exact va.symm
      · rcases List.mem_cons.1 htb with rfl | htb
        · exact vb
        · have q1 := p2 ta hta
          have q2 := p1 tb htb; rw [va] at q1; rw [vb] at q2; rw [slt_asymm q1] at q2
          cases q2
    have hc : a.c = b.c := by rw [ea, hv]; exact coefAt_mem h2 (List.mem_cons_self ..)
    obtain rfl : a = b := by cases a; cases b; simp only at hv hc; subst hv hc; rfl
    congr 1
    refine srt_ext l l2 (List.pairwise_cons.1 h1).2 (List.pairwise_cons.1 h2).2 (fun t ht => n1 t (List.mem_cons_of_mem _ ht)) (fun t ht => n2 t (List.mem_cons_of_mem _ ht)) (fun v => ?_)
    by_cases hq : seq a.v v = true
    · rw [coefAt_none l v (fun u hu => by rw [seq_comm, ← seq_trans_eq hq]; exact slt_ne (p1 u hu)), coefAt_none l2 v (fun u hu => by rw [seq_comm, ← seq_trans_eq hq]; exact slt_ne (p2 u hu))]
    · have := e v
      unfold coefAt at this
      have hq : seq a.v v = false := by simpa using hq
      rw [hq] at this
      simpa using this
theorem ins_len (s : Str) (c : Int) : ∀ l : List Coef, (ins s c l).length ≤ l.length + 1
  | [] => by simp [ins]
  | t :: l => by
    unfold ins
    have := ins_len s c l
    split
    · simp
    · split
      · simp
      · simp; exact this
theorem plus_len {l : List Coef} (h : Srt l) (s : Str) (c : Int) : (plus l s c).length ≤ l.length + 1 := by
  unfold plus
  rw [plusF_srt h]
  exact Nat.le_trans (List.length_filter_le ..) (ins_len s c l)
theorem ins_bd (s : Str) (c : Int) (n m : Int) (hc : -m ≤ c ∧ c ≤ m) (hn : 0 ≤ n) (hm : 0 ≤ m) : ∀ l : List Coef, Bd n l → Bd (n + m) (ins s c l)
  | [], _ => fun t ht => by simp [ins] at ht; subst ht; simp only; omega
  | u :: l, h => fun t ht => by
    have hu := h u (List.mem_cons_self ..)
    have hw : ∀ t ∈ u :: l, -(n + m) ≤ t.c ∧ t.c ≤ n + m := fun t ht => by have := h t ht; omega
    unfold ins at ht
    split at ht
    · rcases List.mem_cons.1 ht with rfl | ht
      · simp only; omega
      · exact hw t ht
    · split at ht
      · rcases List.mem_cons.1 ht with rfl | ht
        · simp only; omega
        · exact hw t (List.mem_cons_of_mem _ ht)
      · rcases List.mem_cons.1 ht with rfl | ht
        · exact hw _ (List.mem_cons_self ..)
        · exact ins_bd s c n m hc hn hm l (fun t ht => h t (List.mem_cons_of_mem _ ht)) t ht
theorem plus_bd {l : List Coef} (h : Srt l) (s : Str) (c : Int) {n m : Int} (hb : Bd n l) (hc : -m ≤ c ∧ c ≤ m) (hn : 0 ≤ n) (hm : 0 ≤ m) : Bd (n + m) (plus l s c) := by
  unfold plus
  rw [plusF_srt h]
  exact fun t ht => ins_bd s c n m hc hn hm l hb t (List.mem_filter.1 ht).1
def timesT (l : List Coef) (x : List Coef) (k : Int) : List Coef := x.foldl (fun a t => plus a t.v (k * t.c)) l
def timesL (l x : Lin) (k : Int) : Lin := ⟨l.const + k * x.const, timesT l.terms x.terms k⟩
theorem times_srt (x : List Coef) (k : Int) : ∀ l : List Coef, Srt l → Srt (timesT l x k) := by
  induction x with
  | nil => exact fun l h => h
  | cons t x ih => exact fun l h => ih _ (plus_srt h _ _)
theorem times_nz (x : List Coef) (k : Int) : ∀ l : List Coef, Nz l → Nz (timesT l x k) := by
  induction x with
  | nil => exact fun l h => h
  | cons t x ih => exact fun l h => ih _ (plus_nz _ _ _)
theorem times_len (x : List Coef) (k : Int) : ∀ l : List Coef, Srt l → (timesT l x k).length ≤ l.length + x.length := by
  induction x with
  | nil => exact fun l h => Nat.le_refl _
  | cons t x ih =>
    intro l h
    have h1 := ih _ (plus_srt h t.v (k * t.c)); have h2 := plus_len h t.v (k * t.c); rw [List.length_cons]
    show (timesT (plus l t.v (k * t.c)) x k).length ≤ _
    omega
theorem mul_bd {k c n m : Int} (hk : -n ≤ k ∧ k ≤ n) (hc : -m ≤ c ∧ c ≤ m) : -(n * m) ≤ k * c ∧ k * c ≤ n * m := by
  have hn : 0 ≤ n := by omega
  have hm : 0 ≤ m := by omega
  have h1 : k.natAbs ≤ n.toNat := by omega
  have h2 : c.natAbs ≤ m.toNat := by omega
  have h3 : (k * c).natAbs ≤ (n * m).toNat := by
    rw [Int.natAbs_mul, Int.toNat_mul hn hm]
    exact Nat.mul_le_mul h1 h2
  have h4 : 0 ≤ n * m := Int.mul_nonneg hn hm
  omega
theorem times_bd (x : List Coef) (k : Int) (hk : -1000000 ≤ k ∧ k ≤ 1000000) (hx : Bd 1000000 x) : ∀ (l : List Coef) (n : Int), 0 ≤ n → Srt l → Bd n l → Bd (n + x.length * 1000000000000) (timesT l x k) := by
  induction x with
  | nil => intro l n hn hs h; simpa [timesT] using h
  | cons t x ih =>
    intro l n hn hs h
    have hc := mul_bd hk (hx t (List.mem_cons_self ..))
    have h1 := ih (fun u hu => hx u (List.mem_cons_of_mem _ hu)) (plus l t.v (k * t.c)) (n + 1000000 * 1000000) (by omega) (plus_srt hs _ _) (plus_bd hs _ _ h hc hn (by decide))
    have e : n + 1000000 * 1000000 + (x.length : Int) * 1000000000000 = n + ((t :: x).length : Int) * 1000000000000 := by rw [List.length_cons]; omega
    rw [e] at h1
    exact h1
end Go.Proofs.YtjongcdlginjlaaGreatDoor
namespace Go.Proofs.YtjongcdlginjlaaGreatDoor
open Go.RowKit
structure TotC {α : Type} (cmp : α → α → Int) : Prop where
  zero : ∀ a b, cmp a b = 0 ↔ a = b
  anti : ∀ a b, cmp b a = -cmp a b
  trans : ∀ a b c, cmp a b < 0 → cmp b c < 0 → cmp a c < 0
def SS {α : Type} (cmp : α → α → Int) (l : List α) : Prop := l.Pairwise fun a b => cmp a b < 0
def Le {α : Type} (cmp : α → α → Int) (l : List α) : Prop := l.Pairwise fun a b => cmp a b ≤ 0
def insU {α : Type} (cmp : α → α → Int) (x : α) : List α → List α
  | [] => [x]
  | y :: l => if cmp y x < 0 then y :: insU cmp x l else if cmp y x = 0 then y :: l else x :: y :: l
theorem insU_mem {α : Type} {cmp : α → α → Int} (t : TotC cmp) (x z : α) : ∀ l : List α, z ∈ insU cmp x l ↔ z = x ∨ z ∈ l
  | [] => by simp [insU]
  | y :: l => by
    unfold insU
    split
    · rw [List.mem_cons, insU_mem t x z l, List.mem_cons]
      constructor
      · rintro (h | h | h)
        · exact .inr (.inl h)
        · exact .inl h
        · exact .inr (.inr h)
      · rintro (h | h | h)
        · exact .inr (.inl h)
        · exact .inl h
        · exact .inr (.inr h)
    · split
      · next h =>
        have := (t.zero _ _).1 h
        subst this
        simp
      · simp
theorem insU_ss {α : Type} {cmp : α → α → Int} (t : TotC cmp) (x : α) : ∀ l : List α, SS cmp l → SS cmp (insU cmp x l)
  | [], _ => by simp [insU, SS]
  | y :: l, h => by
    have h1 := (List.pairwise_cons.1 h).1; have h2 := (List.pairwise_cons.1 h).2
    unfold insU
    split
    · next hy =>
      refine List.pairwise_cons.2 ⟨fun z hz => ?_, insU_ss t x l h2⟩
      rcases (insU_mem t x z l).1 hz with rfl | q
      · exact hy
      · exact h1 z q
    · next hy =>
      split
      · exact h
      · next hz =>
        have hxy : cmp x y < 0 := by have := t.anti y x; omega
        refine List.pairwise_cons.2 ⟨fun z hz => ?_, h⟩
        rcases List.mem_cons.1 hz with rfl | q
        · exact hxy
        · exact t.trans _ _ _ hxy (h1 z q)
theorem ss_ext {α : Type} {cmp : α → α → Int} (t : TotC cmp) : ∀ (l l2 : List α), SS cmp l → SS cmp l2 → (∀ x, x ∈ l ↔ x ∈ l2) → l = l2
  | [], [], _, _, _ => rfl
  | [], b :: l2, _, _, e => absurd ((e b).2 (List.mem_cons_self ..)) (by simp)
  | a :: l, [], _, _, e => absurd ((e a).1 (List.mem_cons_self ..)) (by simp)
  | a :: l, b :: l2, h1, h2, e => by
    have p1 := (List.pairwise_cons.1 h1).1; have p2 := (List.pairwise_cons.1 h2).1
    have irr : ∀ x, ¬ cmp x x < 0 := fun x h => by have := (t.zero x x).2 rfl; omega
    have hab : a = b := by
      rcases List.mem_cons.1 ((e a).1 (List.mem_cons_self ..)) with q | q
      · exact q
      · rcases List.mem_cons.1 ((e b).2 (List.mem_cons_self ..)) with r | r
        · exact r.symm
        · exact absurd (t.trans _ _ _ (p2 a q) (p1 b r)) (irr b)
    subst hab
    congr 1
    refine ss_ext t l l2 (List.pairwise_cons.1 h1).2 (List.pairwise_cons.1 h2).2 (fun x => ?_)
    constructor
    · intro hx
      rcases List.mem_cons.1 ((e x).1 (List.mem_cons_of_mem _ hx)) with q | q
      · subst q; exact absurd (p1 _ hx) (irr _)
      · exact q
    · intro hx
      rcases List.mem_cons.1 ((e x).2 (List.mem_cons_of_mem _ hx)) with q | q
      · subst q; exact absurd (p2 _ hx) (irr _)
      · exact q
def tidyG {α : Type} (cmp : α → α → Int) (d : α → Bool) (l : List α) : List α := l.foldl (fun out x => if d x then out else insU cmp x out) []
theorem tidyG_run {α : Type} {cmp : α → α → Int} (t : TotC cmp) (d : α → Bool) : ∀ (l out : List α), SS cmp out → SS cmp (l.foldl (fun out x => if d x then out else insU cmp x out) out) ∧ ∀ z, z ∈ l.foldl (fun out x => if d x then out else insU cmp x out) out ↔ (z ∈ out ∨ z ∈ l ∧ d z = false)
  | [], out, h => ⟨h, fun z => by simp⟩
  | x :: l, out, h => by
    rw [List.foldl_cons]
    cases hd : d x with
    | true =>
      obtain ⟨q1, q2⟩ := tidyG_run t d l out h
      refine ⟨q1, fun z => (q2 z).trans ?_⟩
      rw [List.mem_cons]
      constructor
      · rintro (h | ⟨h1, h2⟩)
        · exact .inl h
        · exact .inr ⟨.inr h1, h2⟩
      · rintro (h | ⟨rfl | h1, h2⟩)
        · exact .inl h
        · rw [hd] at h2; cases h2
        · exact .inr ⟨h1, h2⟩
    | false =>
      obtain ⟨q1, q2⟩ := tidyG_run t d l (insU cmp x out) (insU_ss t x out h)
      refine ⟨q1, fun z => (q2 z).trans ?_⟩
      rw [insU_mem t, List.mem_cons]
      constructor
      · rintro ((rfl | h) | ⟨h1, h2⟩)
        · exact .inr ⟨.inl rfl, hd⟩
        · exact .inl h
        · exact .inr ⟨.inr h1, h2⟩
      · rintro (h | ⟨rfl | h1, h2⟩)
        · exact .inl (.inr h)
        · exact .inl (.inl rfl)
        · exact .inr ⟨h1, h2⟩
theorem tidyG_ss {α : Type} {cmp : α → α → Int} (t : TotC cmp) (d : α → Bool) (l : List α) : SS cmp (tidyG cmp d l) := (tidyG_run t d l [] List.Pairwise.nil).1
theorem tidyG_mem {α : Type} {cmp : α → α → Int} (t : TotC cmp) (d : α → Bool) (l : List α) (z : α) : z ∈ tidyG cmp d l ↔ z ∈ l ∧ d z = false := by
  have := (tidyG_run t d l [] List.Pairwise.nil).2 z
  simpa [tidyG] using this
def compG {α : Type} (eq : α → α → Bool) : List α → List α
  | [] => []
  | [a] => [a]
  | a :: b :: l => if eq a b then compG eq (a :: l) else a :: compG eq (b :: l)
  termination_by l => l.length
theorem compG_ok {α : Type} {cmp : α → α → Int} (t : TotC cmp) {eq : α → α → Bool} (he : ∀ a b, eq a b = true ↔ a = b) : ∀ l : List α, Le cmp l → SS cmp (compG eq l) ∧ ∀ z, z ∈ compG eq l ↔ z ∈ l
  | [], _ => ⟨by unfold compG; exact List.Pairwise.nil, fun z => by unfold compG; rfl⟩
  | [a], _ => ⟨by unfold compG; simp [SS], fun z => by unfold compG; rfl⟩
  | a :: b :: l, h => by
    have h1 := (List.pairwise_cons.1 h).1; have h2 := (List.pairwise_cons.1 h).2
    unfold compG
    split
    · next q =>
      have := (he _ _).1 q
      subst this; obtain ⟨q1, q2⟩ := compG_ok t he (a :: l) h2
      exact ⟨q1, fun z => (q2 z).trans (by simp)⟩
    · next q =>
      obtain ⟨q1, q2⟩ := compG_ok t he (b :: l) h2
      refine ⟨List.pairwise_cons.2 ⟨fun z hz => ?_, q1⟩, fun z => by rw [List.mem_cons, q2 z, List.mem_cons (a := z) (b := a)]⟩
      have hb := h1 b (List.mem_cons_self ..)
      have hab : cmp a b < 0 := by
        have : cmp a b ≠ 0 := fun r => q ((he _ _).2 ((t.zero _ _).1 r))
        omega
      rcases List.mem_cons.1 ((q2 z).1 hz) with rfl | r
      · exact hab
      · have h3 := (List.pairwise_cons.1 h2).1 z r
        by_cases h4 : cmp b z = 0
        · rw [← (t.zero _ _).1 h4]; exact hab
        · exact t.trans _ _ _ hab (by omega)
  termination_by l => l.length
theorem comp_tidy {α : Type} {cmp : α → α → Int} (t : TotC cmp) {eq : α → α → Bool} (he : ∀ a b, eq a b = true ↔ a = b) (d : α → Bool) (l m : List α) (hm : Le cmp m) (hp : ∀ z, z ∈ m ↔ z ∈ l.filter (fun x => !d x)) : compG eq m = tidyG cmp d l := by
  obtain ⟨q1, q2⟩ := compG_ok t he m hm
  refine ss_ext t _ _ q1 (tidyG_ss t d l) (fun x => ?_)
  rw [q2 x, hp x, tidyG_mem t, List.mem_filter]
  simp
end Go.Proofs.YtjongcdlginjlaaGreatDoor
namespace Go.Proofs.YtjongcdlginjlaaGreatDoor
open Go.RowKit
theorem adj_pair : ∀ (l : List Coef), (∀ i, 0 < i → i < l.length → slt (l.getD (i - 1) default).v (l.getD i default).v = true) → Srt l
  | [], _ => List.Pairwise.nil
  | [a], _ => List.pairwise_cons.2 ⟨fun u hu => by simp at hu, List.Pairwise.nil⟩
  | a :: b :: l, h => by
    have ih := adj_pair (b :: l) (fun i h0 hi => by
      have := h (i + 1) (by omega) (by simp at hi ⊢; omega)
      obtain ⟨j, rfl⟩ : ∃ j, i = j + 1 := ⟨i - 1, by omega⟩
      simpa using this)
    have hab : slt a.v b.v = true := by simpa using h 1 (by omega) (by simp)
    refine List.pairwise_cons.2 ⟨fun u hu => ?_, ih⟩
    rcases List.mem_cons.1 hu with rfl | hu
    · exact hab
    · exact slt_trans hab ((List.pairwise_cons.1 ih).1 u hu)
theorem valid_parts {x : Lin} (h : validLin x = true) : Srt x.terms ∧ Nz x.terms ∧ Bd 1000000 x.terms ∧ (∀ t ∈ x.terms, nameB t.v = true) ∧ (-1000000 ≤ x.const ∧ x.const ≤ 1000000) ∧ x.terms.length ≤ 12 := by
  unfold validLin at h
  rw [Bool.and_eq_true, Bool.and_eq_true] at h; obtain ⟨⟨h1, h2⟩, h3⟩ := h
  unfold termsOk at h1
  rw [List.all_eq_true] at h1
  have hi : ∀ i, i < x.terms.length → nameB (x.terms.getD i default).v = true ∧ (x.terms.getD i default).c ≠ 0 ∧ (-1000000 ≤ (x.terms.getD i default).c ∧ (x.terms.getD i default).c ≤ 1000000) ∧ (0 < i → slt (x.terms.getD (i - 1) default).v (x.terms.getD i default).v = true) := fun i hi => by
    have := h1 i (List.mem_range.2 hi)
    unfold termOk at this
    rw [Bool.and_eq_true, Bool.and_eq_true, Bool.and_eq_true, Bool.or_eq_true] at this; obtain ⟨⟨⟨q1, q2⟩, q3⟩, q4⟩ := this
    refine ⟨q1, by simpa using q2, by simpa [smallB] using q3, fun h0 => ?_⟩
    rcases q4 with q4 | q4
    · have : i = 0 := by simpa using q4
      omega
    · exact q4
  have hm : ∀ t ∈ x.terms, ∃ i, i < x.terms.length ∧ x.terms.getD i default = t := fun t ht => by
    obtain ⟨i, hi, e⟩ := List.getElem_of_mem ht
    exact ⟨i, hi, by rw [List.getD_eq_getElem?_getD, List.getElem?_eq_getElem hi]; exact e⟩
  refine ⟨adj_pair _ fun i h0 hlt => (hi i hlt).2.2.2 h0, fun t ht => ?_, fun t ht => ?_, fun t ht => ?_, by simpa [smallB] using h2, of_decide_eq_true h3⟩
  · obtain ⟨i, hlt, rfl⟩ := hm t ht; exact (hi i hlt).2.1
  · obtain ⟨i, hlt, rfl⟩ := hm t ht; exact (hi i hlt).2.2.1
  · obtain ⟨i, hlt, rfl⟩ := hm t ht; exact (hi i hlt).1
theorem varL_valid {s : Str} (h : nameB s = true) : validLin (varL s) = true := by
  unfold validLin varL termsOk
  simp [termOk, h, smallB, List.range_succ]
def sub1 (b : List Bnd) (v : Str) : Lin := if b.any (isB 1 v) then bndL b v else varL v
def subRun (b : List Bnd) (c : Int) (ts : List Coef) : Lin := ts.foldl (fun acc t => timesL acc (sub1 b t.v) t.c) ⟨c, []⟩
def subRaw (b : List Bnd) (x : Lin) : Lin := subRun b x.const x.terms
def GoodB (b : List Bnd) : Prop := ∀ y ∈ b, y.kind = 1 → validLin y.dim = true
theorem any_hit {α : Type} [Inhabited α] {p : α → Bool} {l : List α} (h : l.any p = true) : l.findIdx p < l.length ∧ p (l.getD (l.findIdx p) default) = true := by
  obtain ⟨x, hx, hp⟩ := List.any_eq_true.1 h; have hlt := List.findIdx_lt_length_of_exists ⟨x, hx, hp⟩
  refine ⟨hlt, ?_⟩
  rw [List.getD_eq_getElem?_getD, List.getElem?_eq_getElem hlt]
  exact List.findIdx_getElem
theorem sub1_valid {b : List Bnd} (h : GoodB b) {v : Str} (hv : nameB v = true) : validLin (sub1 b v) = true := by
  unfold sub1
  split
  · next q =>
    unfold bndL
    rw [if_pos q]; obtain ⟨h1, h2⟩ := any_hit q
    refine h _ (getD_mem h1) ?_
    unfold isB at h2
    rw [Bool.and_eq_true, beq_iff_eq] at h2
    exact h2.1
  · exact varL_valid hv
structure SumOk (n : Nat) (x : Lin) : Prop where
  srt : Srt x.terms
  nz : Nz x.terms
  bd : Bd (n * 12000000000000) x.terms
  lo : -(1000000 + (n : Int) * 1000000000000) ≤ x.const
  hi : x.const ≤ 1000000 + (n : Int) * 1000000000000
  len : x.terms.length ≤ n * 12
theorem SumOk.times {n : Nat} {x y : Lin} (h : SumOk n x) (hy : validLin y = true) {k : Int} (hk : -1000000 ≤ k ∧ k ≤ 1000000) : SumOk (n + 1) (timesL x y k) := by
  obtain ⟨q1, q2, q3, q4, q5, q6⟩ := valid_parts hy; have hm := mul_bd hk q5; have h1 := h.lo; have h2 := h.hi; have h3 := h.len
  refine ⟨times_srt _ _ _ h.srt, times_nz _ _ _ h.nz, fun t ht => ?_, ?_, ?_, ?_⟩
  · have := times_bd y.terms k hk q3 x.terms ((n : Int) * 12000000000000) (by omega) h.srt h.bd t ht
    omega
  · show _ ≤ x.const + k * y.const
    omega
  · show x.const + k * y.const ≤ _
    omega
  · have := times_len y.terms k x.terms h.srt
    show (timesT x.terms y.terms k).length ≤ _
    omega
theorem subRun_ok {b : List Bnd} (hg : GoodB b) {c : Int} (hc : -1000000 ≤ c ∧ c ≤ 1000000) (ts : List Coef) (ht : ∀ t ∈ ts, nameB t.v = true ∧ (-1000000 ≤ t.c ∧ t.c ≤ 1000000)) : SumOk ts.length (subRun b c ts) := by
  suffices H : ∀ (ts : List Coef) (n : Nat) (acc : Lin), (∀ t ∈ ts, nameB t.v = true ∧ (-1000000 ≤ t.c ∧ t.c ≤ 1000000)) → SumOk n acc → SumOk (n + ts.length) (ts.foldl (fun acc t => timesL acc (sub1 b t.v) t.c) acc) by
    have := H ts 0 ⟨c, []⟩ ht ⟨List.Pairwise.nil, fun t ht => by simp at ht, fun t ht => by simp at ht, by simp only; omega, by simp only; omega, by simp⟩
    rwa [Nat.zero_add] at this
  intro ts
  induction ts with
  | nil => exact fun n acc _ h => h
  | cons t ts ih =>
    intro n acc ht h
    have h1 := ht t (List.mem_cons_self ..)
    have := ih (n + 1) _ (fun u hu => ht u (List.mem_cons_of_mem _ hu)) (h.times (sub1_valid hg h1.1) h1.2)
    rwa [List.length_cons, show n + (ts.length + 1) = n + 1 + ts.length by omega]
theorem subRun_take {b : List Bnd} {c : Int} {ts : List Coef} {k : Nat} (h : k < ts.length) : subRun b c (ts.take (k + 1)) = timesL (subRun b c (ts.take k)) (sub1 b (ts.getD k default).v) (ts.getD k default).c := by
  unfold subRun
  rw [take_one h, List.foldl_append]; rfl
theorem valid_take {x : Lin} (h : validLin x = true) {b : List Bnd} (hg : GoodB b) (k : Nat) (hk : k ≤ x.terms.length) : SumOk k (subRun b x.const (x.terms.take k)) := by
  obtain ⟨q1, q2, q3, q4, q5, q6⟩ := valid_parts h
  have := subRun_ok hg q5 (x.terms.take k) (fun t ht => ⟨q4 t (List.mem_of_mem_take ht), q3 t (List.mem_of_mem_take ht)⟩)
  rwa [List.length_take, Nat.min_eq_left hk] at this
def emptyRow (s : Shp) : Bool := s.row.toList.isEmpty && s.dims.length == 0
def validBnd (b : Bnd) : Bool :=
  if b.kind = 1 then nameB b.v && (validLin b.dim && (emptyRow b.row && b.elem.toList.isEmpty))
  else if b.kind = 2 then nameB b.v && (validShp b.row && (zeroL b.dim && b.elem.toList.isEmpty))
  else if b.kind = 3 then elemVarB b.v && (elemB b.elem && (zeroL b.dim && emptyRow b.row)) else false
def bndOk (l : List Bnd) (i : Nat) : Bool := validBnd (l.getD i default) && decide (findB (l.take i) (l.getD i default).kind (l.getD i default).v < 0)
def validBnds (l : List Bnd) : Bool := (List.range l.length).all (bndOk l)
theorem validBnds_at {l : List Bnd} (h : validBnds l = true) {y : Bnd} (hy : y ∈ l) : validBnd y = true := by
  obtain ⟨i, hi, e⟩ := List.getElem_of_mem hy
  have := (List.all_eq_true.1 h) i (List.mem_range.2 hi)
  unfold bndOk at this
  rw [Bool.and_eq_true] at this; rw [List.getD_eq_getElem?_getD, List.getElem?_eq_getElem hi] at this
  simp only [Option.getD_some] at this
  rw [← e]; exact this.1
theorem validBnds_good {l : List Bnd} (h : validBnds l = true) : GoodB l := fun y hy hk => by
  have := validBnds_at h hy
  unfold validBnd at this
  rw [if_pos hk, Bool.and_eq_true, Bool.and_eq_true] at this
  exact this.2.1
def subRow (b : List Bnd) (s : Shp) : Shp := if s.row.toList.isEmpty then ⟨s.row, []⟩ else if 0 ≤ findB b 2 s.row then (b.getD (findB b 2 s.row).toNat default).row else ⟨s.row, []⟩
def dimsOk (b : List Bnd) (s : Shp) : Bool := s.dims.all (fun x => validLin (subRaw b x))
def subShpR (b : List Bnd) (s : Shp) : Shp := ⟨(subRow b s).row, (subRow b s).dims ++ s.dims.map (subRaw b)⟩
def subShpOk (b : List Bnd) (s : Shp) : Bool := dimsOk b s && decide ((subRow b s).dims.length + s.dims.length ≤ 6)
def noShp : Shp := ⟨⟨#[]⟩, []⟩
def subShp (b : List Bnd) (s : Shp) : Shp := if subShpOk b s then subShpR b s else noShp
def subShpE (b : List Bnd) (s : Shp) : Int := if subShpOk b s then 0 else 3
def subEl (b : List Bnd) (e : Str) : Str := if 0 ≤ findB b 3 e then (b.getD (findB b 3 e).toNat default).elem else e
def subTypR (b : List Bnd) (t : Typ) : Typ := ⟨subEl b t.elem, subShpR b t.shape⟩
def noTyp : Typ := ⟨⟨#[]⟩, noShp⟩
def subTyp (b : List Bnd) (t : Typ) : Typ := if subShpOk b t.shape then subTypR b t else noTyp
def subSchR (b : List Bnd) (s : Sch) : Sch := ⟨s.params.map (subTypR b), subTypR b s.result, s.wh.map (subRaw b)⟩
def subSchOk (b : List Bnd) (s : Sch) : Bool := validSch s && (validBnds b && (s.params.all (fun t => subShpOk b t.shape) && (subShpOk b s.result.shape && s.wh.all (fun x => validLin (subRaw b x)))))
def noSch : Sch := ⟨[], noTyp, []⟩
end Go.Proofs.YtjongcdlginjlaaGreatDoor
namespace Go.Proofs.YtjongcdlginjlaaGreatDoor
open Go.RowKit
theorem ordI_neg (a b : Int) : ordI a b < 0 ↔ a < b := by
  unfold ordI
  constructor
  · intro h
    split at h
    · assumption
    · split at h <;> omega
  · intro h; rw [if_pos h]; decide
theorem ordI_anti (a b : Int) : ordI b a = -ordI a b := by
  rcases Int.lt_trichotomy a b with h | h | h
  · unfold ordI; rw [if_neg (by omega), if_pos h, if_pos h]; rfl
  · subst h; rw [(ordI_zero a a).2 rfl]; rfl
  · unfold ordI; rw [if_pos h, if_neg (by omega), if_pos h]
theorem cmpCoef_anti (a b : Coef) : cmpCoef b a = -cmpCoef a b := by
  unfold cmpCoef
  cases h1 : slt a.v b.v with
  | true => rw [slt_asymm h1]; rfl
  | false =>
    cases h2 : slt b.v a.v with
    | true => rfl
    | false => exact ordI_anti _ _
theorem cmpCoef_neg (a b : Coef) : cmpCoef a b < 0 ↔ slt a.v b.v = true ∨ a.v = b.v ∧ a.c < b.c := by
  unfold cmpCoef
  cases h1 : slt a.v b.v with
  | true => simp
  | false =>
    cases h2 : slt b.v a.v with
    | true =>
      simp
      intro e
      rw [e, slt_irrefl] at h2
      cases h2
    | false =>
      have := slt_total h1 h2
      simp [ordI_neg, this]
theorem cmpCoef_trans (a b c : Coef) (h1 : cmpCoef a b < 0) (h2 : cmpCoef b c < 0) : cmpCoef a c < 0 := by
  rw [cmpCoef_neg] at *
  rcases h1 with h1 | ⟨e1, h1⟩
  · rcases h2 with h2 | ⟨e2, h2⟩
    · exact .inl (slt_trans h1 h2)
    · exact .inl (e2 ▸ h1)
  · rcases h2 with h2 | ⟨e2, h2⟩
    · exact .inl (by rw [e1]; exact h2)
    · exact .inr ⟨e1.trans e2, by omega⟩
theorem cmpTerms_anti : ∀ (l l2 : List Coef), cmpTerms l2 l = -cmpTerms l l2
  | [], [] => rfl
  | [], _ :: _ => rfl
  | _ :: _, [] => rfl
  | a :: x, b :: y => by
    unfold cmpTerms
    rw [cmpCoef_anti a b]
    by_cases h : cmpCoef a b = 0
    · rw [if_pos h, if_pos (by omega), cmpTerms_anti x y]
    · rw [if_neg h, if_neg (by omega)]
theorem cmpTerms_trans : ∀ (l m n : List Coef), cmpTerms l m < 0 → cmpTerms m n < 0 → cmpTerms l n < 0
  | [], [], _, h, _ => by simp [cmpTerms] at h
  | [], _ :: _, [], _, h => by simp [cmpTerms] at h
  | [], _ :: _, _ :: _, _, _ => by simp [cmpTerms]
  | _ :: _, [], _, h, _ => by simp [cmpTerms] at h
  | _ :: _, _ :: _, [], _, h => by simp [cmpTerms] at h
  | a :: x, b :: y, c :: z, h1, h2 => by
    unfold cmpTerms at *
    by_cases e1 : cmpCoef a b = 0
    · rw [if_pos e1] at h1
      have := (cmpCoef_zero a b).1 e1
      subst this
      by_cases e2 : cmpCoef a c = 0
      · rw [if_pos e2] at h2 ⊢
        exact cmpTerms_trans x y z h1 h2
      · rw [if_neg e2] at h2 ⊢
        exact h2
    · rw [if_neg e1] at h1
      by_cases e2 : cmpCoef b c = 0
      · have := (cmpCoef_zero b c).1 e2
        subst this
        rw [if_neg e1]; exact h1
      · rw [if_neg e2] at h2
        have := cmpCoef_trans a b c h1 h2
        rw [if_neg (by omega)]; exact this
theorem totLin : TotC cmpLin where
  zero := cmpLin_zero
  anti := fun a b => by
    unfold cmpLin
    rw [cmpTerms_anti a.terms b.terms]
    by_cases h : cmpTerms a.terms b.terms = 0
    · rw [if_pos h, if_pos (by omega)]; exact ordI_anti _ _
    · rw [if_neg h, if_neg (by omega)]
  trans := fun a b c h1 h2 => by
    unfold cmpLin at *
    by_cases e1 : cmpTerms a.terms b.terms = 0
    · rw [if_pos e1] at h1
      rw [(cmpTerms_zero _ _).1 e1]
      by_cases e2 : cmpTerms b.terms c.terms = 0
      · rw [if_pos e2] at h2 ⊢
        rw [ordI_neg] at *
        omega
      · rw [if_neg e2] at h2 ⊢
        exact h2
    · rw [if_neg e1] at h1
      by_cases e2 : cmpTerms b.terms c.terms = 0
      · rw [← (cmpTerms_zero _ _).1 e2, if_neg e1]; exact h1
      · rw [if_neg e2] at h2
        have := cmpTerms_trans _ _ _ h1 h2
        rw [if_neg (by omega)]; exact this
def dropL (x : Lin) : Bool := x.terms.length == 0 && decide (0 ≤ x.const)
def tidy (l : List Lin) : List Lin := tidyG cmpLin dropL l
end Go.Proofs.YtjongcdlginjlaaGreatDoor
namespace Go.Proofs.YtjongcdlginjlaaGreatDoor
open Go.RowKit
def addBs (out vs : List Bnd) : List Bnd := vs.foldl (fun o x => addV o x.kind x.v) out
def varsSch (s : Sch) : List Bnd := if validSch s then addAll ((allT s).foldl (fun o t => addBs o (varsTy t)) []) (s.wh.flatMap varsL) else []
def cntK (k : Int) (l : List Bnd) : Nat := l.countP (fun b => b.kind == k)
def nm (c : UInt8) (n : Nat) : Str := ⟨#[c]⟩ ++ ⟨(Lib.decDigits n).toArray⟩
def renB (n : Nat) (b : Bnd) : Bnd := if b.kind = 1 then ⟨b.kind, b.v, varL (nm 110 n), b.row, b.elem⟩ else if b.kind = 2 then ⟨b.kind, b.v, b.dim, ⟨nm 114 n, b.row.dims⟩, b.elem⟩ else ⟨b.kind, b.v, b.dim, b.row, nm 65 n⟩
def renAt (l : List Bnd) (i : Nat) : Bnd := renB (cntK (l.getD i default).kind (l.take (i + 1))) (l.getD i default)
def ren (l : List Bnd) : List Bnd := (List.range l.length).map (renAt l)
def canR (s : Sch) : Sch := let b := ren (varsSch s); ⟨s.params.map (subTypR b), subTypR b s.result, tidy (s.wh.map (subRaw b))⟩
def canOk (s : Sch) : Bool := subSchOk (ren (varsSch s)) s
def can (s : Sch) : Sch := if canOk s then canR s else noSch
theorem tidy_mem (l : List Lin) (x : Lin) (h : x ∈ tidy l) : x ∈ l := ((tidyG_mem totLin dropL l x).1 h).1
theorem insU_len {α : Type} (cmp : α → α → Int) (x : α) : ∀ l : List α, (insU cmp x l).length ≤ l.length + 1
  | [] => by simp [insU]
  | y :: l => by
    have := insU_len cmp x l
    unfold insU
    split
    · simp; exact this
    · split <;> simp
theorem tidyG_len {α : Type} (cmp : α → α → Int) (d : α → Bool) : ∀ (l out : List α), (l.foldl (fun out x => if d x then out else insU cmp x out) out).length ≤ out.length + l.length
  | [], out => by simp
  | x :: l, out => by
    rw [List.foldl_cons, List.length_cons]
    split
    · have := tidyG_len cmp d l out; omega
    · have h1 := tidyG_len cmp d l (insU cmp x out)
      have h2 := insU_len cmp x out
      omega
theorem tidy_len (l : List Lin) : (tidy l).length ≤ l.length := by have := tidyG_len cmpLin dropL l []; simpa [tidy, tidyG] using this
theorem any_not {α : Type} {p : α → Bool} {l : List α} (h : ∀ x ∈ l, p x = true) : l.any (fun x => !p x) = false := by
  rw [List.any_eq_false]
  intro x hx
  rw [h x hx]; decide
theorem validTyp_parts {t : Typ} (h : validTyp t = true) : elemB t.elem = true ∧ rowB t.shape.row = true ∧ t.shape.dims.length ≤ 6 ∧ ∀ x ∈ t.shape.dims, validLin x = true := by
  unfold validTyp at h
  rw [Bool.and_eq_true] at h; have h2 := valid_dims h.2; have h3 := h.2
  unfold validShp at h3
  rw [Bool.and_eq_true] at h3
  exact ⟨h.1, h3.1, h2.1, h2.2⟩
theorem validTyp_mk {t : Typ} (h1 : elemB t.elem = true) (h2 : rowB t.shape.row = true) (h3 : t.shape.dims.length ≤ 6) (h4 : ∀ x ∈ t.shape.dims, validLin x = true) : validTyp t = true := by
  unfold validTyp validShp
  rw [h1, h2, decide_eq_true h3, any_not h4]; rfl
theorem validSch_parts {s : Sch} (h : validSch s = true) : s.params.length ≤ 12 ∧ s.wh.length ≤ 60 ∧ (∀ t ∈ s.params, validTyp t = true) ∧ validTyp s.result = true ∧ ∀ x ∈ s.wh, validLin x = true := by
  unfold validSch at h
  rw [Bool.and_eq_true, Bool.and_eq_true, Bool.and_eq_true, Bool.and_eq_true] at h; obtain ⟨h1, h2, h3, h4, h5⟩ := h
  refine ⟨of_decide_eq_true h1, of_decide_eq_true h2, fun t ht => ?_, h4, fun x hx => ?_⟩
  · rw [Bool.not_eq_true'] at h3
    have := (List.any_eq_false.1 h3) t ht
    simpa using this
  · rw [Bool.not_eq_true'] at h5
    have := (List.any_eq_false.1 h5) x hx
    simpa using this
theorem validSch_mk {s : Sch} (h1 : s.params.length ≤ 12) (h2 : s.wh.length ≤ 60) (h3 : ∀ t ∈ s.params, validTyp t = true) (h4 : validTyp s.result = true) (h5 : ∀ x ∈ s.wh, validLin x = true) : validSch s = true := by
  unfold validSch
  rw [decide_eq_true h1, decide_eq_true h2, any_not h3, h4, any_not h5]; rfl
theorem find_hit {l : List Bnd} {k : Int} {v : Str} (h : 0 ≤ findB l k v) : l.getD (findB l k v).toNat default ∈ l ∧ (l.getD (findB l k v).toNat default).kind = k := by
  unfold findB idx at *
  by_cases ha : l.any (isB k v) = true
  · rw [if_pos ha] at h ⊢
    obtain ⟨h1, h2⟩ := any_hit ha; rw [Int.toNat_natCast]
    refine ⟨getD_mem h1, ?_⟩
    unfold isB at h2
    rw [Bool.and_eq_true, beq_iff_eq] at h2
    exact h2.1
  · rw [if_neg ha] at h; omega
theorem subRow_valid {b : List Bnd} (hb : validBnds b = true) {s : Shp} (hs : rowB s.row = true) : rowB (subRow b s).row = true ∧ ∀ x ∈ (subRow b s).dims, validLin x = true := by
  unfold subRow
  split
  · exact ⟨hs, fun x hx => by simp at hx⟩
  · split
    · next q =>
      obtain ⟨h1, h2⟩ := find_hit q
      have := validBnds_at hb h1
      unfold validBnd at this
      rw [if_neg (by omega), if_pos h2, Bool.and_eq_true, Bool.and_eq_true] at this
      have hv := this.2.1
      refine ⟨?_, (valid_dims hv).2⟩
      unfold validShp at hv
      rw [Bool.and_eq_true] at hv
      exact hv.1
    · exact ⟨hs, fun x hx => by simp at hx⟩
theorem subEl_valid {b : List Bnd} (hb : validBnds b = true) {e : Str} (he : elemB e = true) : elemB (subEl b e) = true := by
  unfold subEl
  split
  · next q =>
    obtain ⟨h1, h2⟩ := find_hit q
    have := validBnds_at hb h1
    unfold validBnd at this
    rw [if_neg (by omega), if_neg (by omega), if_pos h2, Bool.and_eq_true, Bool.and_eq_true] at this
    exact this.2.1
  · exact he
theorem subTyp_valid {b : List Bnd} (hb : validBnds b = true) {t : Typ} (ht : validTyp t = true) (ho : subShpOk b t.shape = true) : validTyp (subTypR b t) = true := by
  obtain ⟨h1, h2, h3, h4⟩ := validTyp_parts ht; obtain ⟨r1, r2⟩ := subRow_valid hb h2
  unfold subShpOk at ho
  rw [Bool.and_eq_true] at ho
  refine validTyp_mk (subEl_valid hb h1) r1 ?_ ?_
  · show ((subRow b t.shape).dims ++ t.shape.dims.map (subRaw b)).length ≤ 6
    rw [List.length_append, List.length_map]
    exact of_decide_eq_true ho.2
  · intro x hx
    rcases List.mem_append.1 hx with q | q
    · exact r2 x q
    · obtain ⟨y, hy, rfl⟩ := List.mem_map.1 q
      exact (List.all_eq_true.1 ho.1) y hy
theorem can_valid {s : Sch} (h : canOk s = true) : validSch (canR s) = true := by
  unfold canOk subSchOk at h
  unfold canR
  generalize ren (varsSch s) = b at *
  rw [Bool.and_eq_true, Bool.and_eq_true, Bool.and_eq_true, Bool.and_eq_true] at h; obtain ⟨hv, hb, hp, hr, hw⟩ := h; obtain ⟨h1, h2, h3, h4, h5⟩ := validSch_parts hv
  refine validSch_mk ?_ ?_ ?_ ?_ ?_
  · show (s.params.map _).length ≤ 12
    rw [List.length_map]; exact h1
  · have := tidy_len (s.wh.map (subRaw b))
    rw [List.length_map] at this
    exact Nat.le_trans this h2
  · intro t ht
    obtain ⟨u, hu, rfl⟩ := List.mem_map.1 ht
    exact subTyp_valid hb (h3 u hu) ((List.all_eq_true.1 hp) u hu)
  · exact subTyp_valid hb h4 hr
  · intro x hx
    obtain ⟨y, hy, rfl⟩ := List.mem_map.1 (tidy_mem _ x hx)
    exact (List.all_eq_true.1 hw) y hy
end Go.Proofs.YtjongcdlginjlaaGreatDoor
