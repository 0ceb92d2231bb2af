/- The claim's texts, part 3: contracts of the functions that the statement reaches, and what they say of the data. -/
import Derived.Test.YtjongcdlginjlaaGreatDoorPm2
set_option maxRecDepth 100000
set_option maxHeartbeats 8000000
set_option linter.all false
namespace Go.Proofs.YtjongcdlginjlaaGreatDoor
open Go.Proofs.Tryz
open Go.RowKit
def addAll (l : List Bnd) (ns : List Str) : List Bnd := ns.foldl (fun l v => addV l 1 v) l
def rowV (s : Shp) : List Bnd := if s.row.toList.isEmpty then [] else addV [] 2 s.row
def varsS (s : Shp) : List Bnd := addAll (rowV s) (s.dims.flatMap kAN)
theorem addV_len (l : List Bnd) (k : Int) (v : Str) : (addV l k v).length ≤ l.length + 1 := by
 unfold addV
 split
 · omega
 · rw [List.length_append]; exact Nat.le_refl _
theorem kBO (ns : List Str) : ∀ l : List Bnd, (addAll l ns).length ≤ l.length + ns.length := by
 induction ns with
 | nil => intro l; exact Nat.le_refl _
 | cons n ns ih =>
   intro l
   have h1 := ih (addV l 1 n); have h2 := addV_len l 1 n
   show (addAll (addV l 1 n) ns).length ≤ _
   rw [List.length_cons]; omega
theorem kB6 (l : List Bnd) (a b : List Str) : addAll l (a ++ b) = addAll (addAll l a) b := by unfold addAll; rw [List.foldl_append]
theorem kBV {x : Lin} (h : kAD x = true) : x.terms.length ≤ 12 := by
 unfold kAD at h
 rw [Bool.and_eq_true] at h
 exact of_decide_eq_true h.2
theorem kBW {s : Shp} (h : kAL s = true) : s.dims.length ≤ 6 ∧ ∀ x ∈ s.dims, kAD x = true := by
 unfold kAL at h
 rw [Bool.and_eq_true, Bool.and_eq_true] at h
 refine ⟨of_decide_eq_true h.2.1, fun x hx => ?_⟩
 have := h.2.2
 rw [Bool.not_eq_true'] at this
 have := (List.any_eq_false.1 this) x hx
 simpa using this
theorem kDU (l : List Lin) (h : ∀ x ∈ l, kAD x = true) : (l.flatMap kAN).length ≤ l.length * 12 := by
 induction l with
 | nil => simp
 | cons x l ih =>
   rw [List.flatMap_cons, List.length_append, List.length_cons, Nat.add_mul]
   have h1 := ih (fun y hy => h y (List.mem_cons_of_mem _ hy))
   have h2 := kBV (h x (List.mem_cons_self ..))
   have h3 : (kAN x).length = x.terms.length := by unfold kAN; rw [List.length_map]
   omega
theorem kGN (s : Shp) : (rowV s).length ≤ 1 := by
 unfold rowV
 split
 · exact Nat.zero_le _
 · exact addV_len [] 2 s.row
def kCV (s : Shp) : List Bnd := if kAL s then varsS s else []
theorem ref11_Vars {S : Blk} {s : Shp} {cs : List Value} {w : World} (h : RShp.rd S w cs s) (hz : szH s) :
 Calls Tryz.prog 167 #[.agg cs.toArray] w fun e w' => (∃ v, e = .returned v ∧ Own RBnd 103 (fun _ => False) w' w.heap.size v (kCV s)) ∧ Below w.heap.size w w' := by
 have HV : Hid (∀ W, Below w.heap.size w W → Calls Tryz.prog 115 #[.agg cs.toArray] W fun e w' => e = .returned (.bool (kAL s)) ∧ Below W.heap.size W w') :=
  hJ (fun W hW => kEP (RShp.below h hW) hz)
 obtain ⟨t, rfl, a, c, rfl, hs⟩ := h; have hm := hs.small; have HS0 := hJ hs; clear hs
 have hL : s.dims.length = s.dims.length := rfl
 generalize hL2 : s.dims.length = n at *
 have HL := hJ hL2; clear hL hL2; obtain ⟨B0, ya, hW0⟩ := box1 w 37 [.string s.row, .slice a n c]; have xa0 := box0 ya 0 _ rfl; have xa1 := box0 ya 1 _ rfl; clear ya
 by_cases hv : kAL s = true
 case neg =>
  have hv : kAL s = false := by simpa using hv
  rw [hv] at HV
  have HF : Hid (kCV s = []) := hJ (by unfold kCV; rw [hv]; rfl)
  go_enter func167, ntmps167
  go_wp2_with fail
  refine (HV.out _ B0.out).mono ?_
  rintro e w1 ⟨rfl, hb⟩
  go_wp2_with fail
  go_ret
  exact ⟨⟨_, rfl, by rw [HF.out]; exact Own.nil _ _ _ _ _⟩, B0.out.trans (hb.mono B0.out.size)⟩
 have HD := hJ (kBW hv)
 have HF : Hid (kCV s = varsS s) := hJ (by unfold kCV; rw [hv]; rfl)
 rw [hv] at HV; clear hv
 go_enter func167, ntmps167
 go_wp2_with fail
 refine (HV.out _ B0.out).mono ?_
 rintro e w1 ⟨rfl, hb⟩
 have y0 := kAC xa0 _ hb; have y1 := kAC xa1 _ hb; have HW := hJ (B0.out.trans (hb.mono B0.out.size)); have HS := hJ (HS0.out.below HW.out); clear xa0 xa1
 -- behind the row
 by_cases he : s.row.toList.isEmpty = true
 · have HR : Hid (rowV s = []) := hJ (by unfold rowV; rw [he]; rfl)
   go_wp2_with fail
   go_loopw [3, 4] (fun v i wr => ∃ k : Nat, k ≤ n ∧ i = .int .i64 k ∧ Hid (Own RBnd 103 (fun _ => False) wr w1.heap.size v (addAll (rowV s) ((s.dims.take k).flatMap kAN))) ∧ Below w1.heap.size w1 wr) (fun _ i _ => n - (intOf i).toNat)
   case atStart => exact ⟨0, Nat.zero_le _, rfl, hJ (by rw [HR.out]; exact Own.nil _ _ _ _ _), Below.refl _ _⟩
   case round =>
    obtain ⟨k, hk, rfl, HO, hB⟩ := hrel; have d1 := kAC y1 _ hB
    by_cases hlt : k < n
    · obtain ⟨b, off, rfl, hbW, _⟩ := HS.out.form k hlt
      have HK : Hid (k < s.dims.length) := hJ (by rw [HL.out]; exact hlt)
      have HR := hJ (HS.out.below hB); have HX := hJ (kBV (HD.out.2 _ (kAI HK.out)))
      have HNext : Hid ((s.dims.take (k + 1)).flatMap kAN = (s.dims.take k).flatMap kAN ++ kAN (s.dims.getD k default)) := hJ (by rw [kAU HK.out, List.flatMap_append]; simp)
      have HLen : Hid ((addAll (rowV s) ((s.dims.take k).flatMap kAN)).length ≤ 100) := hJ (by
       have q1 := kBO ((s.dims.take k).flatMap kAN) (rowV s); have q2 := kGN s
       have q3 := kDU (s.dims.take k) (fun x hx => HD.out.2 x (List.mem_of_mem_take hx))
       have q4 := HD.out.1; rw [List.length_take] at q3
       omega)
      obtain ⟨t, hr, hd, c0, c1⟩ := HS.out.lin k hlt; obtain ⟨ta, tc, rfl, hts⟩ := hd; have HT := hJ hts; have hmt := hts.small; clear hr hts c0
      generalize s.dims.getD k default = x at *
      generalize hl0 : addAll (rowV s) ((s.dims.take k).flatMap kAN) = l0 at *
      have HL0 := hJ hl0; clear hl0
      generalize hXL : x.terms.length = m at *
      have HXL := hJ hXL; clear hXL
      go_wp2_with fail
      go_loopw [3, 5] (fun v i wr2 => ∃ j : Nat, j ≤ m ∧ i = .int .i64 j ∧ Hid (Own RBnd 103 (fun _ => False) wr2 w1.heap.size v (addAll l0 ((kAN x).take j))) ∧ Below w1.heap.size w1 wr2) (fun _ i _ => m - (intOf i).toNat)
      case atStart => exact ⟨0, Nat.zero_le _, rfl, HO, hB⟩
      case round =>
       obtain ⟨j, hj, rfl, HO2, hB2⟩ := hrel; have e1 := kAC y1 _ hB2; have g1 := kAC c1 _ hB2
       by_cases hlj : j < m
       · obtain ⟨b2, off2, rfl, hbW2, _⟩ := HT.out.form j hlj
         have HT2 := hJ (HT.out.below hB2); obtain ⟨f0, f1⟩ := HT2.out.coef j hlj
         have HKj : Hid (j < x.terms.length) := hJ (by rw [HXL.out]; exact hlj)
         have HStep : Hid (addAll l0 ((kAN x).take (j + 1)) = addV (addAll l0 ((kAN x).take j)) 1 (x.terms.getD j default).v) := hJ (by
          unfold kAN
          rw [← List.map_take, ← List.map_take, kAU HKj.out, List.map_append, kB6]; rfl)
         have HLen2 : Hid ((addAll l0 ((kAN x).take j)).length ≤ 1000000) := hJ (by
          have q1 := kBO ((kAN x).take j) l0; have q2 := HLen.out; rw [List.length_take] at q1; have q3 := HX.out; have q4 := HXL.out
          omega)
         have HC := hJ (kDQ HO2.out hB2.size HLen2.out 1 (x.terms.getD j default).v)
         generalize x.terms.getD j default = y at *
         go_wp2_with fail
         refine HC.out.mono ?_
         rintro e w3 ⟨⟨v3, rfl, hown3⟩, hb3⟩
         go_wp2_with fail
         go_roundw
         case rel => exact ⟨j + 1, by omega, by go_num, hJ (by rw [HStep.out]; exact hown3), hB2.trans hb3⟩
         case measure => simp [intOf]; omega
       · have HEnd : Hid (addAll l0 ((kAN x).take j) = addAll l0 (kAN x)) := hJ (by
          rw [List.take_of_length_le]; unfold kAN; rw [List.length_map, HXL.out]; omega)
         go_wp2_with fail
         go_roundw
         case rel => exact ⟨k + 1, by omega, by go_num, hJ (by rw [HNext.out, kB6, HL0.out, ← HEnd.out]; exact HO2.out), hB2⟩
         case measure => simp [intOf]; omega
    · have HAll : Hid (s.dims.take k = s.dims) := hJ (List.take_of_length_le (by rw [HL.out]; omega))
      go_wp2_with fail
      go_ret
      exact ⟨⟨_, rfl, by rw [HF.out]; unfold varsS; have := HO.out.lower HW.out.size; rwa [HAll.out] at this⟩, HW.out.trans (hB.mono HW.out.size)⟩
 · have he : s.row.toList.isEmpty = false := by simpa using he
   have HR : Hid (rowV s = addV [] 2 s.row) := hJ (by unfold rowV; rw [he]; rfl)
   have HC0 := hJ (kDQ (Own.nil RBnd 103 (fun _ => False) w1 w1.heap.size) (Nat.le_refl _) (by decide) 2 s.row)
   go_wp2_with fail
   refine HC0.out.mono ?_
   rintro e w2 ⟨⟨v2, rfl, hown0⟩, hb0⟩
   go_wp2_with fail
   go_loopw [3, 4] (fun v i wr => ∃ k : Nat, k ≤ n ∧ i = .int .i64 k ∧ Hid (Own RBnd 103 (fun _ => False) wr w1.heap.size v (addAll (rowV s) ((s.dims.take k).flatMap kAN))) ∧ Below w1.heap.size w1 wr) (fun _ i _ => n - (intOf i).toNat)
   case atStart => exact ⟨0, Nat.zero_le _, rfl, hJ (by rw [HR.out]; exact hown0), hb0⟩
   case round =>
    obtain ⟨k, hk, rfl, HO, hB⟩ := hrel; have d1 := kAC y1 _ hB
    by_cases hlt : k < n
    · obtain ⟨b, off, rfl, hbW, _⟩ := HS.out.form k hlt
      have HK : Hid (k < s.dims.length) := hJ (by rw [HL.out]; exact hlt)
      have HR := hJ (HS.out.below hB); have HX := hJ (kBV (HD.out.2 _ (kAI HK.out)))
      have HNext : Hid ((s.dims.take (k + 1)).flatMap kAN = (s.dims.take k).flatMap kAN ++ kAN (s.dims.getD k default)) := hJ (by rw [kAU HK.out, List.flatMap_append]; simp)
      have HLen : Hid ((addAll (rowV s) ((s.dims.take k).flatMap kAN)).length ≤ 100) := hJ (by
       have q1 := kBO ((s.dims.take k).flatMap kAN) (rowV s); have q2 := kGN s
       have q3 := kDU (s.dims.take k) (fun x hx => HD.out.2 x (List.mem_of_mem_take hx))
       have q4 := HD.out.1; rw [List.length_take] at q3
       omega)
      obtain ⟨t, hr, hd, c0, c1⟩ := HS.out.lin k hlt; obtain ⟨ta, tc, rfl, hts⟩ := hd; have HT := hJ hts; have hmt := hts.small; clear hr hts c0
      generalize s.dims.getD k default = x at *
      generalize hl0 : addAll (rowV s) ((s.dims.take k).flatMap kAN) = l0 at *
      have HL0 := hJ hl0; clear hl0
      generalize hXL : x.terms.length = m at *
      have HXL := hJ hXL; clear hXL
      go_wp2_with fail
      go_loopw [3, 5] (fun v i wr2 => ∃ j : Nat, j ≤ m ∧ i = .int .i64 j ∧ Hid (Own RBnd 103 (fun _ => False) wr2 w1.heap.size v (addAll l0 ((kAN x).take j))) ∧ Below w1.heap.size w1 wr2) (fun _ i _ => m - (intOf i).toNat)
      case atStart => exact ⟨0, Nat.zero_le _, rfl, HO, hB⟩
      case round =>
       obtain ⟨j, hj, rfl, HO2, hB2⟩ := hrel; have e1 := kAC y1 _ hB2; have g1 := kAC c1 _ hB2
       by_cases hlj : j < m
       · obtain ⟨b2, off2, rfl, hbW2, _⟩ := HT.out.form j hlj
         have HT2 := hJ (HT.out.below hB2); obtain ⟨f0, f1⟩ := HT2.out.coef j hlj
         have HKj : Hid (j < x.terms.length) := hJ (by rw [HXL.out]; exact hlj)
         have HStep : Hid (addAll l0 ((kAN x).take (j + 1)) = addV (addAll l0 ((kAN x).take j)) 1 (x.terms.getD j default).v) := hJ (by
          unfold kAN
          rw [← List.map_take, ← List.map_take, kAU HKj.out, List.map_append, kB6]; rfl)
         have HLen2 : Hid ((addAll l0 ((kAN x).take j)).length ≤ 1000000) := hJ (by
          have q1 := kBO ((kAN x).take j) l0; have q2 := HLen.out; rw [List.length_take] at q1; have q3 := HX.out; have q4 := HXL.out
          omega)
         have HC := hJ (kDQ HO2.out hB2.size HLen2.out 1 (x.terms.getD j default).v)
         generalize x.terms.getD j default = y at *
         go_wp2_with fail
         refine HC.out.mono ?_
         rintro e w3 ⟨⟨v3, rfl, hown3⟩, hb3⟩
         go_wp2_with fail
         go_roundw
         case rel => exact ⟨j + 1, by omega, by go_num, hJ (by rw [HStep.out]; exact hown3), hB2.trans hb3⟩
         case measure => simp [intOf]; omega
       · have HEnd : Hid (addAll l0 ((kAN x).take j) = addAll l0 (kAN x)) := hJ (by
          rw [List.take_of_length_le]; unfold kAN; rw [List.length_map, HXL.out]; omega)
         go_wp2_with fail
         go_roundw
         case rel => exact ⟨k + 1, by omega, by go_num, hJ (by rw [HNext.out, kB6, HL0.out, ← HEnd.out]; exact HO2.out), hB2⟩
         case measure => simp [intOf]; omega
    · have HAll : Hid (s.dims.take k = s.dims) := hJ (List.take_of_length_le (by rw [HL.out]; omega))
      go_wp2_with fail
      go_ret
      exact ⟨⟨_, rfl, by rw [HF.out]; unfold varsS; have := HO.out.lower HW.out.size; rwa [HAll.out] at this⟩, HW.out.trans (hB.mono HW.out.size)⟩
def kBQ (t : Typ) : List Bnd := if kAK t then (if kAV t.elem then addV (kCV t.shape) 3 t.elem else kCV t.shape) else []
theorem varsV_len (s : Shp) : (kCV s).length ≤ 100 := by
 unfold kCV
 split
 · next h =>
   have q1 := kBO (s.dims.flatMap kAN) (rowV s); have q2 := kGN s; have q3 := kBW h; have q4 := kDU s.dims q3.2; have q5 := q3.1
   unfold varsS
   omega
 · exact Nat.zero_le _
theorem ref12_TypeVars {S : Blk} {x : Typ} {cs : List Value} {w : World} (h : RTyp.rd S w cs x) (hz : szT x) :
 Calls Tryz.prog 125 #[.agg cs.toArray] w fun e w' => (∃ v, e = .returned v ∧ Own RBnd 103 (fun _ => False) w' w.heap.size v (kBQ x)) ∧ Below w.heap.size w w' := by
 have HV : Hid (∀ W, Below w.heap.size w W → Calls Tryz.prog 66 #[.agg cs.toArray] W fun e w' => e = .returned (.bool (kAK x)) ∧ Below W.heap.size W w') :=
  hJ (fun W hW => kF7 (RTyp.below h hW) hz)
 obtain ⟨t, rfl, a, c, rfl, hs⟩ := h
 have hez : x.elem.size ≤ 281474976710656 := Nat.le_trans hz.1 (by decide)
 have HC : Hid (∀ W, Below w.heap.size w W → Calls Tryz.prog 167 #[.agg #[.string x.shape.row, .slice a x.shape.dims.length c]] W fun e w' => (∃ v, e = .returned v ∧ Own RBnd 103 (fun _ => False) w' W.heap.size v (kCV x.shape)) ∧ Below W.heap.size W w') :=
  hJ (fun W hW => ref11_Vars (S := S) (cs := [.string x.shape.row, .slice a x.shape.dims.length c]) ⟨_, rfl, a, c, rfl, hs.below hW⟩ hz.2)
 have HLen := hJ (varsV_len x.shape); clear hs; obtain ⟨B0, ya, hW0⟩ := box1 w 39 [.string x.elem, .string x.shape.row, .slice a x.shape.dims.length c]; have xa0 := box0 ya 0 _ rfl; have xa1 := box0 ya 1 _ rfl; have xa2 := box0 ya 2 _ rfl; clear ya
 by_cases hv : kAK x = true
 case neg =>
  have hv : kAK x = false := by simpa using hv
  rw [hv] at HV
  have HF : Hid (kBQ x = []) := hJ (by unfold kBQ; rw [hv]; rfl)
  clear hv
  go_enter func125, ntmps125
  go_wp2_with fail
  refine (HV.out _ B0.out).mono ?_
  rintro e w1 ⟨rfl, hb⟩
  go_wp2_with fail
  go_ret
  exact ⟨⟨_, rfl, by rw [HF.out]; exact Own.nil _ _ _ _ _⟩, B0.out.trans (hb.mono B0.out.size)⟩
 rw [hv] at HV
 have HF : Hid (kBQ x = if kAV x.elem then addV (kCV x.shape) 3 x.elem else kCV x.shape) := hJ (by unfold kBQ; rw [hv]; rfl)
 clear hv
 by_cases he : kAV x.elem = true
 · have HF : Hid (kBQ x = addV (kCV x.shape) 3 x.elem) := hJ (by rw [HF.out, he]; rfl)
   go_enter func125, ntmps125
   go_wp2_with fail
   refine (HV.out _ B0.out).mono ?_
   rintro e w1 ⟨rfl, hb⟩
   have y0 := kAC xa0 _ hb; have y1 := kAC xa1 _ hb; have y2 := kAC xa2 _ hb; have HW := hJ (B0.out.trans (hb.mono B0.out.size)); clear xa0 xa1 xa2
   go_wp2_with fail
   refine (HC.out _ HW.out).mono ?_
   rintro e w2 ⟨⟨v, rfl, hown⟩, hb2⟩
   have z0 := kAC y0 _ hb2
   have HO := hJ (kDQ hown hb2.size (by have := HLen.out; omega) 3 x.elem)
   clear hown
   go_wp2_with fail
   refine (kDF x.elem hez _).mono ?_
   rintro e _ ⟨rfl, rfl⟩
   go_wp2_with fail
   refine HO.out.mono ?_
   rintro e w3 ⟨⟨v3, rfl, hown3⟩, hb3⟩
   go_wp2_with fail
   go_ret
   exact ⟨⟨_, rfl, by rw [HF.out]; exact hown3.lower HW.out.size⟩, HW.out.trans ((hb2.trans hb3).mono HW.out.size)⟩
 · have he : kAV x.elem = false := by simpa using he
   have HF : Hid (kBQ x = kCV x.shape) := hJ (by rw [HF.out, he]; rfl)
   go_enter func125, ntmps125
   go_wp2_with fail
   refine (HV.out _ B0.out).mono ?_
   rintro e w1 ⟨rfl, hb⟩
   have y0 := kAC xa0 _ hb; have y1 := kAC xa1 _ hb; have y2 := kAC xa2 _ hb; have HW := hJ (B0.out.trans (hb.mono B0.out.size)); clear xa0 xa1 xa2
   go_wp2_with fail
   refine (HC.out _ HW.out).mono ?_
   rintro e w2 ⟨⟨v, rfl, hown⟩, hb2⟩
   have z0 := kAC y0 _ hb2
   go_wp2_with fail
   refine (kDF x.elem hez _).mono ?_
   rintro e _ ⟨rfl, rfl⟩
   go_wp2_with fail
   go_ret
   exact ⟨⟨_, rfl, by rw [HF.out]; exact hown.lower HW.out.size⟩, HW.out.trans (hb2.mono HW.out.size)⟩
def bndL (l : List Bnd) (name : Str) : Lin := if l.any (isB 1 name) then (l.getD (l.findIdx (isB 1 name)) default).dim else ⟨0, []⟩
theorem bnd_hit {l : List Bnd} {name : Str} {k : Nat} (hk : k < l.length) (h : isB 1 name (l.getD k default) = true) (hb : ∀ j, j < k → isB 1 name (l.getD j default) = false) : bndL l name = (l.getD k default).dim ∧ l.any (isB 1 name) = true := by
 have hi := idx_hit hk h hb
 unfold idx at hi
 by_cases ha : l.any (isB 1 name) = true
 · rw [if_pos ha] at hi
   have hi2 : l.findIdx (isB 1 name) = k := by omega
   unfold bndL
   rw [if_pos ha, hi2]
   exact ⟨rfl, ha⟩
 · rw [if_neg ha] at hi
   omega
theorem bnd_none {l : List Bnd} {name : Str} (hb : ∀ j, j < l.length → isB 1 name (l.getD j default) = false) : bndL l name = ⟨0, []⟩ ∧ l.any (isB 1 name) = false := by
 have hi := kGU hb
 unfold idx at hi
 by_cases ha : l.any (isB 1 name) = true
 · rw [if_pos ha] at hi
   omega
 · have ha : l.any (isB 1 name) = false := by simpa using ha
   unfold bndL
   rw [ha]
   exact ⟨rfl, rfl⟩
theorem ref04_bound {S : Blk} (l : List Bnd) (a : Option Addr) (n c : Nat) (w : World) (h : Sl RBnd S w a n c l) (name : Str) :
 Calls Tryz.prog 121 #[.slice a n c, .string name] w fun e w' => (∃ ds, e = .returned (.tuple #[.agg ds.toArray, .bool (l.any (isB 1 name))]) ∧ RLin.rd S w' ds (bndL l name)) ∧ Below w.heap.size w w' := by
 have H := hJ h; have hn := h.small; clear h
 have hB0 : Below w.heap.size w (w.alloc (.cells #[.int .i64 0, .slice none 0 0] 65)) := (Below.refl _ _).alloc (Nat.le_refl _) _
 have z0 : (w.alloc (.cells #[.int .i64 0, .slice none 0 0] 65)).cell? ⟨w.heap.size, 0, none⟩ = some (.int .i64 0) := by simp [go_sem]
 have z1 : (w.alloc (.cells #[.int .i64 0, .slice none 0 0] 65)).cell? ⟨w.heap.size, 1, none⟩ = some (.slice none 0 0) := by simp [go_sem]
 have hblk : (w.alloc (.cells #[.int .i64 0, .slice none 0 0] 65)).heap[w.heap.size]? = some (.cells #[.int .i64 0, .slice none 0 0] 65 (0, 0)) := by (simp only [kAG, kAE, Array.getElem?_push, Array.size_push]; simp)
 have fz0 : (w.alloc (.cells #[.int .i64 0, .slice none 0 0] 65)).frozen? ⟨w.heap.size, 0, none⟩ = false := by unfold World.frozen?; rw [hblk]; rfl
 have fz1 : (w.alloc (.cells #[.int .i64 0, .slice none 0 0] 65)).frozen? ⟨w.heap.size, 1, none⟩ = false := by unfold World.frozen?; rw [hblk]; rfl
 have H1 := hJ (H.out.below hB0); have HB0 := hJ hB0; clear hB0 hblk
 go_enter func121, ntmps121
 go_wp2_with fail
 generalize (w.alloc (.cells #[.int .i64 0, .slice none 0 0] 65)) = W at *
 go_loopw [6] (fun i wr => ∃ k : Nat, k ≤ n ∧ i = .int .i64 k ∧ Hid (∀ j, j < k → isB 1 name (l.getD j default) = false) ∧ W = wr) (fun i _ => n - (intOf i).toNat)
 case atStart => exact ⟨0, Nat.zero_le _, rfl, fun j hj => absurd hj (by omega), rfl⟩
 case round =>
  obtain ⟨k, hk, rfl, HT, rfl⟩ := hrel
  by_cases hlt : k < n
  · obtain ⟨b, off, rfl, hbW, _⟩ := H1.out.form k hlt
    have HK : Hid (k < l.length) := hJ (by rw [H.out.len]; exact hlt)
    obtain ⟨t, d, hr, hd, c0, c1, c2, c3, c4, c5, c6⟩ := H1.out.bnd k hlt; obtain ⟨⟨ta, tc, rfl, hts⟩, _⟩ := hd
    have hts : Sl kBP S W ta (l.getD k default).dim.terms.length tc (l.getD k default).dim.terms := hts
    have HH : Hid (isB 1 name (l.getD k default) = true → bndL l name = (l.getD k default).dim ∧ l.any (isB 1 name) = true) := hJ (fun q => bnd_hit HK.out q HT.out)
    have HG := hJ (fun q => upto HT.out (p := fun j => isB 1 name (l.getD j default) = false) q)
    have HE : Hid (isB 1 name (l.getD k default) = ((l.getD k default).kind == 1 && ((l.getD k default).v.toList == name.toList))) := hJ rfl
    obtain ⟨t0, d0, hr0, hd0, g0, g1, g2, g3, g4, g5, g6⟩ := H.out.bnd k hlt
    have HTs0 : Hid (Sl kBP S w ta (l.getD k default).dim.terms.length tc (l.getD k default).dim.terms) := hJ (by
     obtain ⟨⟨ta2, tc2, e2, hts2⟩, _⟩ := hd0
     have := kAC g3 _ HB0.out
     rw [c3] at this
     cases this
     cases e2
     exact hts2)
    clear hr hts hr0 hd0 g0 g1 g2 g3 g4 g5 g6
    generalize l.getD k default = x at *
    by_cases h1 : x.kind = 1
    · have q1 : (x.kind == 1) = true := beq_iff_eq.2 h1
      clear h1
      by_cases h2 : (x.v.toList == name.toList) = true
      · have HF := hJ (HH.out (by rw [HE.out, q1, h2]; rfl))
        have s0 : (W.setCell ⟨w.heap.size, 0, none⟩ (.int .i64 x.dim.const)).cell? ⟨w.heap.size, 0, none⟩ = some (.int .i64 x.dim.const) := World.cell?_setCell_same' _ _ _ (by rw [z0]; rfl)
        have t1 : (W.setCell ⟨w.heap.size, 0, none⟩ (.int .i64 x.dim.const)).cell? ⟨w.heap.size, 1, none⟩ = some (.slice none 0 0) := (kC5 _ _ _ _ _ (by decide)).trans z1
        have s1 : ((W.setCell ⟨w.heap.size, 0, none⟩ (.int .i64 x.dim.const)).setCell ⟨w.heap.size, 1, none⟩ (.slice ta x.dim.terms.length tc)).cell? ⟨w.heap.size, 1, none⟩ = some (.slice ta x.dim.terms.length tc) := World.cell?_setCell_same' _ _ _ (by rw [t1]; rfl)
        go_wp2_with fail
        refine bodyPost_ret (v := .tuple #[.agg #[.int .i64 x.dim.const, .slice ta x.dim.terms.length tc], .bool true]) (by simp [results, results121, go_sem, s0, s1]) rfl ?_
        refine ⟨⟨[.int .i64 x.dim.const, .slice ta x.dim.terms.length tc], by rw [HF.out.2], by rw [HF.out.1]; exact ⟨_, rfl, ta, tc, rfl, HTs0.out.below ((HB0.out.setCell (Nat.le_refl _) _).setCell (Nat.le_refl _) _)⟩⟩, (HB0.out.setCell (Nat.le_refl _) _).setCell (Nat.le_refl _) _⟩
      · have h2 : (x.v.toList == name.toList) = false := by simpa using h2
        have HGo := hJ (HG.out (by show isB 1 name x = false; rw [HE.out, q1, h2]; rfl))
        go_wp2_with fail
        go_roundw
        case rel => exact ⟨k + 1, by omega, by go_num, HGo, trivial⟩
        case measure => simp [intOf]; omega
    · have q1 : (x.kind == 1) = false := beq_eq_false_iff_ne.2 h1
      have HGo := hJ (HG.out (by show isB 1 name x = false; rw [HE.out, q1]; rfl))
      clear h1
      go_wp2_with fail
      go_roundw
      case rel => exact ⟨k + 1, by omega, by go_num, HGo, trivial⟩
      case measure => simp [intOf]; omega
  · have HF := hJ (bnd_none (l := l) (name := name) fun j hj => HT.out j (by rw [H.out.len] at hj; omega))
    have s0 : (W.setCell ⟨w.heap.size, 0, none⟩ (.int .i64 0)).cell? ⟨w.heap.size, 0, none⟩ = some (.int .i64 0) := World.cell?_setCell_same' _ _ _ (by rw [z0]; rfl)
    have t1 : (W.setCell ⟨w.heap.size, 0, none⟩ (.int .i64 0)).cell? ⟨w.heap.size, 1, none⟩ = some (.slice none 0 0) := (kC5 _ _ _ _ _ (by decide)).trans z1
    have s1 : ((W.setCell ⟨w.heap.size, 0, none⟩ (.int .i64 0)).setCell ⟨w.heap.size, 1, none⟩ (.slice none 0 0)).cell? ⟨w.heap.size, 1, none⟩ = some (.slice none 0 0) := World.cell?_setCell_same' _ _ _ (by rw [t1]; rfl)
    go_wp2_with fail
    refine bodyPost_ret (v := .tuple #[.agg #[.int .i64 0, .slice none 0 0], .bool false]) (by simp [results, results121, go_sem, s0, s1]) rfl ?_
    refine ⟨⟨[.int .i64 0, .slice none 0 0], by rw [HF.out.2], by rw [HF.out.1]; exact RLin.zero _ _⟩, (HB0.out.setCell (Nat.le_refl _) _).setCell (Nat.le_refl _) _⟩
def ordI (a b : Int) : Int := if a < b then -1 else if b < a then 1 else 0
def kAY (s t : Coef) : Int := if slt s.v t.v then -1 else if slt t.v s.v then 1 else ordI s.c t.c
def kAP : List Coef → List Coef → Int
 | [], [] => 0
 | [], _ :: _ => -1
 | _ :: _, [] => 1
 | a :: x, b :: y => if kAY a b = 0 then kAP x y else kAY a b
def kAZ (a b : Lin) : Int := if kAP a.terms b.terms = 0 then ordI a.const b.const else kAP a.terms b.terms
theorem kC8 (a b : Int) : ordI a b = 0 ↔ a = b := by unfold ordI; split; omega; split <;> omega
theorem kDX (s t : Coef) : kAY s t = 0 ↔ s = t := by
 unfold kAY
 constructor
 · intro h
   split at h
   · cases h
   · split at h
     · cases h
     · next h1 h2 =>
       have e := kCO (by simpa using h1) (by simpa using h2)
       have e2 := (kC8 _ _).1 h
       cases s; cases t; simp_all
 · rintro rfl
   rw [kBZ]
   simp [(kC8 s.c s.c).2 rfl]
theorem eqCoef_iff (s t : Coef) : kCK s t = true ↔ s = t := by
 unfold kCK
 rw [Bool.and_eq_true, kA7, beq_iff_eq]
 constructor
 · rintro ⟨h1, h2⟩; cases s; cases t; simp_all
 · rintro rfl; exact ⟨rfl, rfl⟩
theorem kCT : ∀ (l l2 : List Coef), kAP l l2 = 0 ↔ l = l2
 | [], [] => by simp [kAP]
 | [], _ :: _ => by simp [kAP]
 | _ :: _, [] => by simp [kAP]
 | a :: x, b :: y => by
   unfold kAP
   by_cases h : kAY a b = 0
   · rw [if_pos h, kCT x y]
     have := (kDX a b).1 h
     subst this
     simp
   · rw [if_neg h]
     constructor
     · intro q; exact absurd q h
     · intro q; injection q with q1 q2; exact absurd ((kDX a b).2 q1) h
theorem kCZ {α : Type} [Inhabited α] (p : α → α → Bool) (hp : ∀ a b, p a b = true ↔ a = b) (l l2 : List α) : kA2 p l l2 = true ↔ l = l2 := by
 unfold kA2
 rw [Bool.and_eq_true, beq_iff_eq, List.all_eq_true]
 constructor
 · rintro ⟨h1, h2⟩
   refine List.ext_getElem h1 fun i hi hi2 => ?_
   have := (hp _ _).1 (h2 i (List.mem_range.2 hi))
   rwa [List.getD_eq_getElem?_getD, List.getD_eq_getElem?_getD, List.getElem?_eq_getElem hi, List.getElem?_eq_getElem hi2] at this
 · rintro rfl
   exact ⟨rfl, fun i _ => (hp _ _).2 rfl⟩
theorem kEF (a b : Lin) : kB3 a b = true ↔ a = b := by
 unfold kB3
 rw [Bool.and_eq_true, beq_iff_eq, kCZ _ eqCoef_iff]
 constructor
 · rintro ⟨h1, h2⟩; cases a; cases b; simp_all
 · rintro rfl; exact ⟨rfl, rfl⟩
theorem cmpLin_zero (a b : Lin) : kAZ a b = 0 ↔ a = b := by
 unfold kAZ
 constructor
 · intro h
   split at h
   · next q =>
     have e1 := (kCT _ _).1 q; have e2 := (kC8 _ _).1 h
     cases a; cases b; simp_all
   · next q => exact absurd h q
 · rintro rfl
   rw [if_pos ((kCT _ _).2 rfl)]
   exact (kC8 _ _).2 rfl
theorem eqLin_cmp (a b : Lin) : (kAZ a b == 0) = kB3 a b := by
 rw [Bool.eq_iff_iff, beq_iff_eq, cmpLin_zero, kEF]
theorem eqShp_iff (a b : Shp) : kE1 a b = true ↔ a = b := by
 unfold kE1
 rw [Bool.and_eq_true, kA7, kCZ _ kEF]
 constructor
 · rintro ⟨h1, h2⟩; cases a; cases b; simp_all
 · rintro rfl; exact ⟨rfl, rfl⟩
theorem eqTyp_iff (a b : Typ) : kDD a b = true ↔ a = b := by
 unfold kDD
 rw [Bool.and_eq_true, kA7, eqShp_iff]
 constructor
 · rintro ⟨h1, h2⟩; cases a; cases b; simp_all
 · rintro rfl; exact ⟨rfl, rfl⟩
theorem eqSch_iff (a b : Sch) : kFF a b = true ↔ a = b := by
 unfold kFF
 rw [Bool.and_eq_true, Bool.and_eq_true, kCZ _ eqTyp_iff, eqTyp_iff, kCZ _ kEF]
 constructor
 · rintro ⟨h1, h2, h3⟩; cases a; cases b; simp_all
 · rintro rfl; exact ⟨rfl, rfl, rfl⟩
theorem cmp_drop : ∀ (k : Nat) (l l2 : List Coef), k ≤ l.length → k ≤ l2.length → (∀ j, j < k → kAY (l.getD j default) (l2.getD j default) = 0) → kAP l l2 = kAP (l.drop k) (l2.drop k)
 | 0, _, _, _, _, _ => rfl
 | k + 1, [], _, h, _, _ => by simp at h
 | k + 1, _ :: _, [], _, h, _ => by simp at h
 | k + 1, a :: l, b :: l2, h1, h2, h => by
   have h0 := h 0 (by omega)
   simp only [List.getD_cons_zero] at h0
   show (if kAY a b = 0 then kAP l l2 else kAY a b) = kAP (l.drop k) (l2.drop k)
   rw [if_pos h0]
   exact cmp_drop k l l2 (by simpa using h1) (by simpa using h2) (fun j hj => by have := h (j + 1) (by omega); simpa using this)
theorem cmp_stop {l l2 : List Coef} {k : Nat} (h1 : k < l.length) (h2 : k < l2.length) (h : ∀ j, j < k → kAY (l.getD j default) (l2.getD j default) = 0) (hk : kAY (l.getD k default) (l2.getD k default) ≠ 0) : kAP l l2 = kAY (l.getD k default) (l2.getD k default) := by
 rw [cmp_drop k l l2 (by omega) (by omega) h, List.drop_eq_getElem_cons h1, List.drop_eq_getElem_cons h2]
 have e : ∀ {q : List Coef} (hq : k < q.length), q.getD k default = q[k] := fun hq => by rw [List.getD_eq_getElem?_getD, List.getElem?_eq_getElem hq]; rfl
 rw [e h1, e h2] at hk ⊢
 unfold kAP
 rw [if_neg hk]
theorem cmp_end {l l2 : List Coef} {k : Nat} (h1 : k = l.length ∨ k = l2.length) (hl : k ≤ l.length) (hl2 : k ≤ l2.length) (h : ∀ j, j < k → kAY (l.getD j default) (l2.getD j default) = 0) : kAP l l2 = ordI l.length l2.length := by
 rw [cmp_drop k l l2 hl hl2 h]
 have a1 : (l.drop k).length = l.length - k := List.length_drop
 have a2 : (l2.drop k).length = l2.length - k := List.length_drop
 unfold ordI
 cases e1 : l.drop k with
 | nil =>
   rw [e1] at a1
   simp at a1
   cases e2 : l2.drop k with
   | nil => rw [e2] at a2; simp at a2; simp only [kAP]; rw [if_neg (by omega), if_neg (by omega)]
   | cons b y => rw [e2] at a2; simp at a2; simp only [kAP]; rw [if_pos (by omega)]
 | cons a x =>
   rw [e1] at a1
   simp at a1
   cases e2 : l2.drop k with
   | nil => rw [e2] at a2; simp at a2; simp only [kAP]; rw [if_neg (by omega), if_pos (by omega)]
   | cons b y => rw [e2] at a2; simp at a2; omega
theorem cmpB : ∀ (x y : List UInt8), Lib.compareBytes x y = if Op.bytesLess x y = true then -1 else if Op.bytesLess y x = true then 1 else 0
 | [], [] => rfl
 | [], _ :: _ => rfl
 | _ :: _, [] => rfl
 | a :: x, b :: y => by
   unfold Lib.compareBytes Op.bytesLess
   by_cases h1 : a < b
   · simp [h1]
   · by_cases h2 : b < a
     · have : ¬ a = b := by intro e; subst e; exact h1 h2
       have h3 : ¬ a < b := h1
       simp [h1, h2, this]
     · have : a = b := UInt8.le_antisymm (UInt8.not_lt.1 h2) (UInt8.not_lt.1 h1)
       subst this
       simp [h1, cmpB x y]
def cmpS (a b : Str) : Int := if slt a b then -1 else if slt b a then 1 else 0
theorem kF5 (a b : Str) (w : World) : Calls Tryz.prog 51 #[.string a, .string b] w fun e w' => e = .returned (.int .i64 (cmpS a b)) ∧ w = w' := by
 refine (Tryz.strings_Compare a b w).mono ?_
 rintro e w' ⟨rfl, rfl⟩
 refine ⟨?_, rfl⟩
 unfold cmpS slt
 rw [cmpB, ByteArray.toList_eq, ByteArray.toList_eq]
theorem linear_order (a b : Int) (w : World) : Calls Tryz.prog 112 #[.int .i64 a, .int .i64 b] w fun e w' => e = .returned (.int .i64 (ordI a b)) ∧ w = w' := by
 unfold ordI
 by_cases h0 : a < b
 · have q : decide (a < b) = true := decide_eq_true h0
   go_enter func112, ntmps112
   go_wp2_with fail
   go_ret
   exact ⟨rfl, rfl⟩
 · by_cases h1 : b < a
   · go_enter func112, ntmps112
     go_wp2_with fail
     go_ret
     exact ⟨rfl, rfl⟩
   · go_enter func112, ntmps112
     go_wp2_with fail
     go_ret
     exact ⟨rfl, rfl⟩
theorem cmpCoef_s (s t : Coef) : kAY s t = if cmpS s.v t.v = 0 then ordI s.c t.c else cmpS s.v t.v := by
 unfold kAY cmpS
 cases slt s.v t.v <;> cases slt t.v s.v <;> simp
theorem linear_Compare_1 (s t : Coef) (w : World) : Calls Tryz.prog 111 #[.agg #[.string s.v, .int .i64 s.c], .agg #[.string t.v, .int .i64 t.c]] w fun e w' => e = .returned (.int .i64 (kAY s t)) ∧ Below w.heap.size w w' := by
 obtain ⟨B0, ya, yb, hW0⟩ := box2 w 62 [.string s.v, .int .i64 s.c] 62 [.string t.v, .int .i64 t.c]; have xa0 := box0 ya 0 _ rfl; have xa1 := box0 ya 1 _ rfl; have xb0 := box0 yb 0 _ rfl; have xb1 := box0 yb 1 _ rfl; clear ya yb; have HN := hJ (cmpCoef_s s t)
 have HC := fun w => kF5 s.v t.v w
 generalize cmpS s.v t.v = d at *
 have HC := hJ HC
 by_cases hd : d = 0
 · have HF : Hid (kAY s t = ordI s.c t.c) := hJ (by rw [HN.out, if_pos hd])
   have hq : (d != 0) = false := by rw [hd]; rfl
   go_enter func111, ntmps111
   go_wp2_with fail
   refine (HC.out _).mono ?_
   rintro e _ ⟨rfl, rfl⟩
   go_wp2_with fail
   refine (linear_order _ _ _).mono ?_
   rintro e _ ⟨rfl, rfl⟩
   go_wp2_with fail
   go_ret
   exact ⟨by rw [HF.out]; rfl, B0.out⟩
 · have HF : Hid (kAY s t = d) := hJ (by rw [HN.out, if_neg hd])
   have hq : (d != 0) = true := bne_iff_ne.2 hd
   go_enter func111, ntmps111
   go_wp2_with fail
   refine (HC.out _).mono ?_
   rintro e _ ⟨rfl, rfl⟩
   go_wp2_with fail
   go_ret
   exact ⟨by rw [HF.out]; rfl, B0.out⟩
theorem compareFunc_Coef {S T : Blk} (l l2 : List Coef) (a a2 : Option Addr) (n n2 c c2 : Nat) (w : World) (h : Sl kBP S w a n c l) (h2 : Sl kBP T w a2 n2 c2 l2) :
 Calls Tryz.prog 110 #[.slice a n c, .slice a2 n2 c2, .func (.func 111) #[] #[]] w fun e w' => e = .returned (.int .i64 (kAP l l2)) ∧ Below w.heap.size w w' := by
 have H := hJ h; have H2 := hJ h2; have hn := h.small; have hn2 := h2.small; clear h h2; have hen := kBM func111 rfl rfl
 go_enter func110, ntmps110
 go_wp2_with fail
 go_loopw [13] (fun i wr => ∃ k : Nat, k ≤ n ∧ k ≤ n2 ∧ i = .int .i64 k ∧ Hid (∀ j, j < k → kAY (l.getD j default) (l2.getD j default) = 0) ∧ Below w.heap.size w wr) (fun i _ => n - (intOf i).toNat)
 case atStart => exact ⟨0, Nat.zero_le _, Nat.zero_le _, rfl, fun j hj => absurd hj (by omega), Below.refl _ _⟩
 case round =>
  obtain ⟨k, hk, hk2, rfl, HT, hB⟩ := hrel
  by_cases hlt : k < n
  · obtain ⟨b, off, rfl, hbW, _⟩ := H.out.form k hlt
    have HR := hJ (H.out.below hB); obtain ⟨c0, c1⟩ := HR.out.coef k hlt
    by_cases hlt2 : k < n2
    · obtain ⟨b2, off2, rfl, hbW2, _⟩ := H2.out.form k hlt2
      have HR2 := hJ (H2.out.below hB); obtain ⟨d0, d1⟩ := HR2.out.coef k hlt2
      have HS : Hid (kAY (l.getD k default) (l2.getD k default) ≠ 0 → kAP l l2 = kAY (l.getD k default) (l2.getD k default)) := hJ (fun q => cmp_stop (by rw [H.out.len]; exact hlt) (by rw [H2.out.len]; exact hlt2) HT.out q)
      have HG : Hid (kAY (l.getD k default) (l2.getD k default) = 0 → ∀ j, j < k + 1 → kAY (l.getD j default) (l2.getD j default) = 0) := hJ (fun q => upto HT.out q)
      generalize l.getD k default = x at *
      generalize l2.getD k default = y at *
      have hA1 : Below wr.heap.size wr (wr.alloc (.cells #[.string x.v, .int .i64 x.c] 62)) := (Below.refl _ _).alloc (Nat.le_refl _) _
      have e0 := kAC d0 _ hA1; have e1 := kAC d1 _ hA1; clear hA1 d0 d1; have HC := hJ (linear_Compare_1 x y)
      generalize kAY x y = d at *
      by_cases hd : d = 0
      · have HGo := hJ (HG.out hd)
        have hq : (d != 0) = false := by rw [hd]; rfl
        clear hd
        go_wp2_with (go_at_call 111; refine (HC.out _).mono ?_; rintro e w' ⟨rfl, hb'⟩)
        go_roundw
        case rel => exact ⟨k + 1, by omega, by omega, by go_num, HGo, (hB.trans ((blw2 _ _ _).mono hB.size)).trans (hb'.mono (Nat.le_trans hB.size (blw2 _ _ _).size))⟩
        case measure => simp [intOf]; omega
      · have HF := hJ (HS.out hd)
        have hq : (d != 0) = true := bne_iff_ne.2 hd
        clear hd
        go_wp2_with (go_at_call 111; refine (HC.out _).mono ?_; rintro e w' ⟨rfl, hb'⟩)
        go_ret
        exact ⟨by rw [HF.out]; rfl, (hB.trans ((blw2 _ _ _).mono hB.size)).trans (hb'.mono (Nat.le_trans hB.size (blw2 _ _ _).size))⟩
    · have HF : Hid (kAP l l2 = 1) := hJ (by
       rw [cmp_end (k := k) (.inr (by rw [H2.out.len]; omega)) (by rw [H.out.len]; omega) (by rw [H2.out.len]; omega) HT.out, H.out.len, H2.out.len]
       unfold ordI
       rw [if_neg (by omega), if_pos (by omega)])
      have hq : (n2 : Int) ≤ (k : Int) := by omega
      go_wp2_with fail
      go_ret
      exact ⟨by rw [HF.out]; rfl, hB.alloc hB.size _⟩
  · obtain rfl : k = n := by omega
    have HE : Hid (kAP l l2 = ordI k n2) := hJ (by
     rw [cmp_end (k := k) (.inl (by rw [H.out.len])) (by rw [H.out.len]; omega) (by rw [H2.out.len]; omega) HT.out, H.out.len, H2.out.len])
    by_cases hq : k < n2
    · have HF : Hid (kAP l l2 = -1) := hJ (by rw [HE.out]; unfold ordI; rw [if_pos (by omega)])
      go_wp2_with fail
      go_ret
      exact ⟨by rw [HF.out]; rfl, hB⟩
    · have HF : Hid (kAP l l2 = 0) := hJ (by rw [HE.out]; unfold ordI; rw [if_neg (by omega), if_neg (by omega)])
      go_wp2_with fail
      go_ret
      exact ⟨by rw [HF.out]; rfl, hB⟩
theorem linear_Compare {S T : Blk} {x y : Lin} {cs ds : List Value} {w : World} (h : RLin.rd S w cs x) (h2 : RLin.rd T w ds y) :
 Calls Tryz.prog 63 #[.agg cs.toArray, .agg ds.toArray] w fun e w' => e = .returned (.int .i64 (kAZ x y)) ∧ Below w.heap.size w w' := by
 obtain ⟨t, rfl, a, c, rfl, hs⟩ := h; obtain ⟨t2, rfl, a2, c2, rfl, hs2⟩ := h2; obtain ⟨B0, ya, yb, hW0⟩ := box2 w 65 [.int .i64 x.const, .slice a x.terms.length c] 65 [.int .i64 y.const, .slice a2 y.terms.length c2]; have xa0 := box0 ya 0 _ rfl; have xa1 := box0 ya 1 _ rfl; have xb0 := box0 yb 0 _ rfl; have xb1 := box0 yb 1 _ rfl; clear ya yb; have HC := hJ (compareFunc_Coef x.terms y.terms a a2 _ _ c c2 _ (hs.below B0.out) (hs2.below B0.out))
 have HN : Hid (kAZ x y = if kAP x.terms y.terms = 0 then ordI x.const y.const else kAP x.terms y.terms) := hJ rfl
 clear hs hs2
 generalize kAP x.terms y.terms = d at *
 by_cases hd : d = 0
 · have HF : Hid (kAZ x y = ordI x.const y.const) := hJ (by rw [HN.out, if_pos hd])
   have hq : (d != 0) = false := by rw [hd]; rfl
   clear hd
   go_enter func63, ntmps63
   go_wp2_with fail
   refine (HC.out).mono ?_
   rintro e w1 ⟨rfl, hb⟩
   have e0 := kAC xa0 _ hb; have f0 := kAC xb0 _ hb
   go_wp2_with fail
   refine (linear_order _ _ _).mono ?_
   rintro e _ ⟨rfl, rfl⟩
   go_wp2_with fail
   go_ret
   exact ⟨by rw [HF.out]; rfl, B0.out.trans (hb.mono B0.out.size)⟩
 · have HF : Hid (kAZ x y = d) := hJ (by rw [HN.out, if_neg hd])
   have hq : (d != 0) = true := bne_iff_ne.2 hd
   clear hd
   go_enter func63, ntmps63
   go_wp2_with fail
   refine (HC.out).mono ?_
   rintro e w1 ⟨rfl, hb⟩
   go_wp2_with fail
   go_ret
   exact ⟨by rw [HF.out]; rfl, B0.out.trans (hb.mono B0.out.size)⟩
theorem ordI_lt {a b : Int} (h : a < b) : ordI a b = -1 := by unfold ordI; rw [if_pos h]
theorem ordI_gt {a b : Int} (h : b < a) : ordI a b = 1 := by unfold ordI; rw [if_neg (by omega), if_pos h]
theorem cmp_less {x y : Coef} (h : slt x.v y.v = true) : kAY x y = -1 := by unfold kAY; rw [if_pos h]
theorem cmp_eq {x y : Coef} (h : seq x.v y.v = true) : kAY x y = ordI x.c y.c := by
 have e := (kA7 _ _).1 h
 unfold kAY
 rw [e, kBZ]; rfl
theorem cmp_more {x y : Coef} (h : slt x.v y.v = false) (h2 : seq x.v y.v = false) : kAY x y = 1 := by
 unfold kAY
 rw [h]
 cases q : slt y.v x.v with
 | true => rfl
 | false => have := kCO h q; rw [this, seq_refl] at h2; cases h2
theorem kES {S T : Blk} {x y : Lin} {cs ds : List Value} {w : World} (h : RLin.rd S w cs x) (h2 : RLin.rd T w ds y) :
 Calls Tryz.prog 73 #[.agg cs.toArray, .agg ds.toArray] w fun e w' => e = .returned (.int .i64 (kAZ x y)) ∧ Below w.heap.size w w' := by
 obtain ⟨t, rfl, a, c, rfl, hs⟩ := h; obtain ⟨t2, rfl, a2, c2, rfl, hs2⟩ := h2; have hn := hs.small; have hn2 := hs2.small
 generalize hL : x.terms.length = n at *
 generalize hL2 : y.terms.length = n2 at *
 obtain ⟨B0, ya, yb, hW0⟩ := box2 w 65 [.int .i64 x.const, .slice a n c] 65 [.int .i64 y.const, .slice a2 n2 c2]; have xa0 := box0 ya 0 _ rfl; have xa1 := box0 ya 1 _ rfl; have xb0 := box0 yb 0 _ rfl; have xb1 := box0 yb 1 _ rfl; clear ya yb; have H := hJ (hs.below B0.out); have H2 := hJ (hs2.below B0.out); clear hs hs2; have HL := hJ hL; have HL2 := hJ hL2
 have HN : Hid (kAZ x y = if kAP x.terms y.terms = 0 then ordI x.const y.const else kAP x.terms y.terms) := hJ rfl
 clear hL hL2
 go_enter func73, ntmps73
 go_wp2_with fail
 generalize ((w.alloc (.cells #[.int .i64 x.const, .slice a n c] 65)).alloc (.cells #[.int .i64 y.const, .slice a2 n2 c2] 65)) = W at *
 go_loopw [5] (fun i wr => ∃ k : Nat, k ≤ n ∧ k ≤ n2 ∧ i = .int .i64 k ∧ Hid (∀ j, j < k → kAY (x.terms.getD j default) (y.terms.getD j default) = 0) ∧ Below W.heap.size W wr) (fun i _ => n - (intOf i).toNat)
 case atStart => exact ⟨0, Nat.zero_le _, Nat.zero_le _, rfl, fun j hj => absurd hj (by omega), Below.refl _ _⟩
 case round =>
  obtain ⟨k, hk, hk2, rfl, HT, hB⟩ := hrel; have e1 := kAC xa1 _ hB; have f1 := kAC xb1 _ hB
  by_cases hlt : k < n ∧ k < n2
  · obtain ⟨hlt, hlt2⟩ := hlt
    have q1 : decide ((k : Int) < (n : Int)) = true := decide_eq_true (by omega)
    obtain ⟨b, off, rfl, hbW, _⟩ := H.out.form k hlt; obtain ⟨b2, off2, rfl, hbW2, _⟩ := H2.out.form k hlt2; have HR := hJ (H.out.below hB); have HR2 := hJ (H2.out.below hB); obtain ⟨c0, c1⟩ := HR.out.coef k hlt; obtain ⟨d0, d1⟩ := HR2.out.coef k hlt2
    have HS : Hid (kAY (x.terms.getD k default) (y.terms.getD k default) ≠ 0 → kAP x.terms y.terms = kAY (x.terms.getD k default) (y.terms.getD k default)) := hJ (fun q => cmp_stop (by rw [HL.out]; exact hlt) (by rw [HL2.out]; exact hlt2) HT.out q)
    have HG : Hid (kAY (x.terms.getD k default) (y.terms.getD k default) = 0 → ∀ j, j < k + 1 → kAY (x.terms.getD j default) (y.terms.getD j default) = 0) := hJ (fun q => upto HT.out q)
    generalize x.terms.getD k default = s at *
    generalize y.terms.getD k default = t at *
    have hb1 : b < wr.heap.size := Nat.lt_of_lt_of_le hbW hB.size
    have hb2 : b2 < wr.heap.size := Nat.lt_of_lt_of_le hbW2 hB.size
    have hw1 : w.heap.size < wr.heap.size := by have := hB.size; omega
    have hw2 : w.heap.size + 1 < wr.heap.size := by have := hB.size; omega
    clear xa0 xb0
    have HV : Hid (kAP x.terms y.terms ≠ 0 → kAZ x y = kAP x.terms y.terms) := hJ (fun q => by rw [HN.out, if_neg q])
    have HD : Hid (∀ d : Int, d ≠ 0 → kAY s t = d → kAZ x y = d) := hJ (fun d q e => by
     have e2 := HS.out (by rw [e]; exact q)
     rw [HV.out (by rw [e2, e]; exact q), e2, e])
    have hgd : ∀ (o o2 : Operand) (xs ys : Array Value) w, (eqGuard .neq 62 o o2 (.agg xs) (.agg ys)).run Tryz.prog w = .ok () w := fun o o2 xs ys w => run_eqGuard_agg w .neq _ o o2 xs ys (by kernel_rfl)
    have HEq : Hid (kCK s t = ((s.v.toList == t.v.toList) && s.c == t.c)) := hJ rfl
    have HL1 := hJ (@cmp_less s t); have HL2 := hJ (@cmp_eq s t); have HL3 := hJ (@cmp_more s t)
    by_cases hl : Op.bytesLess s.v.toList t.v.toList = true
    · have HF : Hid (kAZ x y = -1) := hJ (HD.out (-1) (by decide) (HL1.out hl))
      go_wp2_with fail
      go_region
      all_goals
       go_wp2_with fail
       go_ret
       exact ⟨by rw [HF.out]; rfl, B0.out.trans ((((hB.alloc hB.size _).alloc (hB.alloc hB.size _).size _).drew).mono B0.out.size)⟩
    have hl : Op.bytesLess s.v.toList t.v.toList = false := by simpa using hl
    by_cases he : (s.v.toList == t.v.toList) = true
    · have HO := hJ (HL2.out he)
      by_cases hc : s.c < t.c
      · have HF : Hid (kAZ x y = -1) := hJ (HD.out (-1) (by decide) (by rw [HO.out]; unfold ordI; rw [if_pos hc]))
        have qc : decide (s.c < t.c) = true := decide_eq_true hc
        go_wp2_with fail
        go_region
        all_goals
         go_wp2_with fail
         go_ret
         exact ⟨by rw [HF.out]; rfl, B0.out.trans ((((hB.alloc hB.size _).alloc (hB.alloc hB.size _).size _).drew).mono B0.out.size)⟩
      have qc : decide (s.c < t.c) = false := decide_eq_false hc
      by_cases hce : s.c = t.c
      · have HGo := hJ (HG.out (by rw [HO.out]; exact (kC8 _ _).2 hce))
        have hbin : ∀ w, (binOp .neq 62 (.agg #[.string s.v, .int .i64 s.c]) (.agg #[.string t.v, .int .i64 t.c])).run Tryz.prog w = .ok (.bool false) w := fun w => by rw [kGR, HEq.out, he, beq_iff_eq.2 hce]; rfl
        clear hce hc
        go_wp2_with fail
        go_region
        all_goals
         go_wp2_with fail
         go_roundw
         case rel => exact ⟨k + 1, by omega, by omega, by go_num, HGo, (((hB.alloc hB.size _).alloc (hB.alloc hB.size _).size _).drew)⟩
         case measure => simp [intOf]; omega
      · have HF : Hid (kAZ x y = 1) := hJ (HD.out 1 (by decide) (by rw [HO.out]; unfold ordI; rw [if_neg hc, if_pos (by omega)]))
        have hbin : ∀ w, (binOp .neq 62 (.agg #[.string s.v, .int .i64 s.c]) (.agg #[.string t.v, .int .i64 t.c])).run Tryz.prog w = .ok (.bool true) w := fun w => by rw [kGR, HEq.out, he, beq_eq_false_iff_ne.2 hce]; rfl
        clear hce hc
        go_wp2_with fail
        go_region
        all_goals
         go_wp2_with fail
         go_ret
         exact ⟨by rw [HF.out]; rfl, B0.out.trans ((((hB.alloc hB.size _).alloc (hB.alloc hB.size _).size _).drew).mono B0.out.size)⟩
    · have he : (s.v.toList == t.v.toList) = false := by simpa using he
      have HF : Hid (kAZ x y = 1) := hJ (HD.out 1 (by decide) (HL3.out hl he))
      have hbin : ∀ w, (binOp .neq 62 (.agg #[.string s.v, .int .i64 s.c]) (.agg #[.string t.v, .int .i64 t.c])).run Tryz.prog w = .ok (.bool true) w := fun w => by rw [kGR, HEq.out, he]; rfl
      go_wp2_with fail
      go_region
      all_goals
       go_wp2_with fail
       go_ret
       exact ⟨by rw [HF.out]; rfl, B0.out.trans ((((hB.alloc hB.size _).alloc (hB.alloc hB.size _).size _).drew).mono B0.out.size)⟩
  · have HE : Hid (kAP x.terms y.terms = ordI n n2) := hJ (by
     rw [cmp_end (k := k) (by rw [HL.out, HL2.out]; omega) (by rw [HL.out]; omega) (by rw [HL2.out]; omega) HT.out, HL.out, HL2.out])
    have e0 := kAC xa0 _ hB; have f0 := kAC xb0 _ hB; have HW := hJ (B0.out.trans (hB.mono B0.out.size))
    rcases Nat.lt_trichotomy n n2 with g | g | g
    · have HF : Hid (kAZ x y = -1) := hJ (by rw [HN.out, HE.out, ordI_lt (by omega)]; rfl)
      have p1 : decide ((k : Int) < (n : Int)) = false := decide_eq_false (by omega)
      have p2 : decide ((n : Int) < (n2 : Int)) = true := decide_eq_true (by omega)
      go_wp2_with fail
      go_ret
      exact ⟨by rw [HF.out]; rfl, HW.out⟩
    · subst g
      have HF : Hid (kAZ x y = ordI x.const y.const) := hJ (by rw [HN.out, HE.out, (kC8 _ _).2 rfl, if_pos rfl])
      have p1 : decide ((k : Int) < (n : Int)) = false := decide_eq_false (by omega)
      have p2 : decide ((n : Int) < (n : Int)) = false := decide_eq_false (by omega)
      rcases Int.lt_trichotomy x.const y.const with r | r | r
      · have HF : Hid (kAZ x y = -1) := hJ (by rw [HF.out]; unfold ordI; rw [if_pos r])
        have p3 : decide (x.const < y.const) = true := decide_eq_true r
        go_wp2_with fail
        go_ret
        exact ⟨by rw [HF.out]; rfl, HW.out⟩
      · have HF : Hid (kAZ x y = 0) := hJ (by rw [HF.out]; exact (kC8 _ _).2 r)
        have p3 : decide (x.const < y.const) = false := decide_eq_false (by omega)
        have p4 : decide (y.const < x.const) = false := decide_eq_false (by omega)
        go_wp2_with fail
        go_ret
        exact ⟨by rw [HF.out]; rfl, HW.out⟩
      · have HF : Hid (kAZ x y = 1) := hJ (by rw [HF.out]; unfold ordI; rw [if_neg (by omega), if_pos r])
        have p3 : decide (x.const < y.const) = false := decide_eq_false (by omega)
        have p4 : decide (y.const < x.const) = true := decide_eq_true r
        go_wp2_with fail
        go_ret
        exact ⟨by rw [HF.out]; rfl, HW.out⟩
    · have HF : Hid (kAZ x y = 1) := hJ (by rw [HN.out, HE.out, ordI_gt (by omega)]; rfl)
      have p5 : decide ((k : Int) < (n2 : Int)) = false := decide_eq_false (by omega)
      have p2 : decide ((n : Int) < (n2 : Int)) = false := decide_eq_false (by omega)
      have p3 : ((n : Int) == (n2 : Int)) = false := beq_eq_false_iff_ne.2 (by omega)
      have p4 : decide ((n2 : Int) < (n : Int)) = true := decide_eq_true (by omega)
      have p1 : decide ((k : Int) < (n : Int)) = true := decide_eq_true (by omega)
      go_wp2_with fail
      go_ret
      exact ⟨by rw [HF.out]; rfl, HW.out⟩
theorem kER {S T : Blk} {x y : Lin} {cs ds : List Value} {w : World} (h : RLin.rd S w cs x) (h2 : RLin.rd T w ds y) :
 Calls Tryz.prog 35 #[.agg cs.toArray, .agg ds.toArray] w fun e w' => e = .returned (.bool (kB3 x y)) ∧ Below w.heap.size w w' := by
 obtain ⟨t, rfl, a, c, rfl, hs⟩ := h; obtain ⟨t2, rfl, a2, c2, rfl, hs2⟩ := h2; obtain ⟨B0, ya, yb, hW0⟩ := box2 w 65 [.int .i64 x.const, .slice a x.terms.length c] 65 [.int .i64 y.const, .slice a2 y.terms.length c2]; have xa0 := box0 ya 0 _ rfl; have xa1 := box0 ya 1 _ rfl; have xb0 := box0 yb 0 _ rfl; have xb1 := box0 yb 1 _ rfl; clear ya yb; have HC := hJ (kES (x := x) (y := y) (S := S) (T := T) ⟨_, rfl, a, c, rfl, hs.below B0.out⟩ ⟨_, rfl, a2, c2, rfl, hs2.below B0.out⟩); have HN := hJ (eqLin_cmp x y); clear hs hs2
 generalize kAZ x y = d at *
 go_enter func35, ntmps35
 go_wp2_with fail
 refine (HC.out).mono ?_
 rintro e w1 ⟨rfl, hb⟩
 go_wp2_with fail
 go_ret
 exact ⟨by rw [← HN.out]; rfl, B0.out.trans (hb.mono B0.out.size)⟩
theorem neqB {a b : List UInt8} (h : (a == b) = true) : (a != b) = false := by unfold bne; rw [h]; rfl
theorem neqB' {a b : List UInt8} (h : (a == b) = false) : (a != b) = true := by unfold bne; rw [h]; rfl
theorem ref11_Equal {S T : Blk} {x y : Shp} {cs ds : List Value} {w : World} (h : RShp.rd S w cs x) (h2 : RShp.rd T w ds y) :
 Calls Tryz.prog 74 #[.agg cs.toArray, .agg ds.toArray] w fun e w' => e = .returned (.bool (kE1 x y)) ∧ Below w.heap.size w w' := by
 obtain ⟨t, rfl, a, c, rfl, hs⟩ := h; obtain ⟨t2, rfl, a2, c2, rfl, hs2⟩ := h2; have hn := hs.small; have hn2 := hs2.small
 generalize hL : x.dims.length = n at *
 generalize hL2 : y.dims.length = n2 at *
 obtain ⟨B0, ya, yb, hW0⟩ := box2 w 37 [.string x.row, .slice a n c] 37 [.string y.row, .slice a2 n2 c2]; have xa0 := box0 ya 0 _ rfl; have xa1 := box0 ya 1 _ rfl; have xb0 := box0 yb 0 _ rfl; have xb1 := box0 yb 1 _ rfl; clear ya yb; have H := hJ (hs.below B0.out); have H2 := hJ (hs2.below B0.out); have HL := hJ hL; have HL2 := hJ hL2
 have HN : Hid (kE1 x y = ((x.row.toList == y.row.toList) && kA2 kB3 x.dims y.dims)) := hJ rfl
 clear hs hs2 hL hL2
 by_cases hc : (x.row.toList == y.row.toList) = true
 case neg =>
  have hc : (x.row.toList == y.row.toList) = false := by simpa using hc
  have hcn := neqB' hc
  have HF : Hid (kE1 x y = false) := hJ (by rw [HN.out, hc]; rfl)
  go_enter func74, ntmps74
  go_wp2_with fail
  go_ret
  exact ⟨by rw [HF.out]; rfl, B0.out⟩
 have hcn := neqB hc
 have HN : Hid (kE1 x y = kA2 kB3 x.dims y.dims) := hJ (by rw [HN.out, hc]; rfl)
 by_cases hnn : n = n2
 case neg =>
  have HF : Hid (kE1 x y = false) := hJ (by rw [HN.out]; exact eq_len _ (by rw [HL.out, HL2.out]; exact hnn))
  have q : ((n : Int) != (n2 : Int)) = true := bne_iff_ne.2 (by omega)
  go_enter func74, ntmps74
  go_wp2_with fail
  go_ret
  exact ⟨by rw [HF.out]; rfl, B0.out⟩
 subst hnn
 have q : ((n : Int) != (n : Int)) = false := by simp
 go_enter func74, ntmps74
 go_wp2_with fail
 generalize ((w.alloc (.cells #[.string x.row, .slice a n c] 37)).alloc (.cells #[.string y.row, .slice a2 n c2] 37)) = W at *
 go_loopw [5] (fun i wr => ∃ k : Nat, k ≤ n ∧ i = .int .i64 k ∧ Hid (∀ j, j < k → kB3 (x.dims.getD j default) (y.dims.getD j default) = true) ∧ Below W.heap.size W wr) (fun i _ => n - (intOf i).toNat)
 case atStart => exact ⟨0, Nat.zero_le _, rfl, fun j hj => absurd hj (by omega), Below.refl _ _⟩
 case round =>
  obtain ⟨k, hk, rfl, HT, hB⟩ := hrel; have e1 := kAC xa1 _ hB; have f1 := kAC xb1 _ hB; have HW := hJ (B0.out.trans (hB.mono B0.out.size))
  by_cases hlt : k < n
  · obtain ⟨b, off, rfl, hbW, _⟩ := H.out.form k hlt
    obtain ⟨b2, off2, rfl, hbW2, _⟩ := H2.out.form k hlt
    have HK : Hid (k < x.dims.length) := hJ (by rw [HL.out]; exact hlt)
    have HK2 : Hid (k < y.dims.length) := hJ (by rw [HL2.out]; exact hlt)
    have HR := hJ (H.out.below hB); have HR2 := hJ (H2.out.below hB); obtain ⟨t, hr, hd, c0, c1⟩ := HR.out.lin k hlt; obtain ⟨t2, hr2, hd2, d0, d1⟩ := HR2.out.lin k hlt
    have HH : Hid (kB3 (x.dims.getD k default) (y.dims.getD k default) = false → kE1 x y = false) := hJ (fun q => by rw [HN.out]; exact eq_stop _ HK.out HK2.out q)
    have HG : Hid (kB3 (x.dims.getD k default) (y.dims.getD k default) = true → ∀ j, j < k + 1 → kB3 (x.dims.getD j default) (y.dims.getD j default) = true) := hJ (fun q => upto HT.out q)
    have HRd := hJ hr; have HRd2 := hJ hr2; clear hd hr hd2 hr2 xa0 xa1 xb0 xb1
    generalize x.dims.getD k default = s at *
    generalize y.dims.getD k default = t at *
    have HC := hJ (fun (u : Later wr) => kER (RLin.below HRd.out u.b) (RLin.below HRd2.out u.b))
    have c0 := Later.cell c0; have c1 := Later.cell c1; have d0 := Later.cell d0; have d1 := Later.cell d1; have e1 := Later.cell e1; have f1 := Later.cell f1
    by_cases hq : kB3 s t = true
    · have HGo := hJ (HG.out hq)
      rw [hq] at HC; clear hq
      go_wp2_with fail
      refine kAB (by kernel_rfl) (by kernel_rfl) ?_
      repeat (go_big_quiet_step (first | fail | exact Later.call (HC.out _)))
      refine wpQuiet_nil ?_
      rintro _ ⟨t9, rfl⟩
      go_wp2_with fail
      go_roundw
      case rel => exact ⟨k + 1, by omega, by go_num, HGo, hB.trans (t9.b.mono hB.size)⟩
      case measure => simp [intOf]; omega
    · have hq : kB3 s t = false := by simpa using hq
      have HF := hJ (HH.out hq); rw [hq] at HC; clear hq
      go_wp2_with fail
      refine kAB (by kernel_rfl) (by kernel_rfl) ?_
      repeat (go_big_quiet_step (first | fail | exact Later.call (HC.out _)))
      refine wpQuiet_nil ?_
      rintro _ ⟨t9, rfl⟩
      go_wp2_with fail
      go_ret
      exact ⟨by rw [HF.out]; rfl, HW.out.trans (t9.b.mono HW.out.size)⟩
  · have HF : Hid (kE1 x y = true) := hJ (by rw [HN.out]; exact eq_done _ (by rw [HL.out, HL2.out]) fun j hj => HT.out j (by rw [HL.out] at hj; omega))
    go_wp2_with fail
    go_ret
    exact ⟨by rw [HF.out]; rfl, HW.out⟩
theorem ref12_Equal {S T : Blk} {x y : Typ} {cs ds : List Value} {w : World} (h : RTyp.rd S w cs x) (h2 : RTyp.rd T w ds y) :
 Calls Tryz.prog 34 #[.agg cs.toArray, .agg ds.toArray] w fun e w' => e = .returned (.bool (kDD x y)) ∧ Below w.heap.size w w' := by
 obtain ⟨t, rfl, a, c, rfl, hs⟩ := h; obtain ⟨t2, rfl, a2, c2, rfl, hs2⟩ := h2; obtain ⟨B0, ya, yb, hW0⟩ := box2 w 39 [.string x.elem, .string x.shape.row, .slice a x.shape.dims.length c] 39 [.string y.elem, .string y.shape.row, .slice a2 y.shape.dims.length c2]; have xa0 := box0 ya 0 _ rfl; have xa1 := box0 ya 1 _ rfl; have xa2 := box0 ya 2 _ rfl; have xb0 := box0 yb 0 _ rfl; have xb1 := box0 yb 1 _ rfl; have xb2 := box0 yb 2 _ rfl; clear ya yb; have HC := hJ (ref11_Equal (x := x.shape) (y := y.shape) (S := S) (T := T) (cs := [.string x.shape.row, .slice a x.shape.dims.length c]) (ds := [.string y.shape.row, .slice a2 y.shape.dims.length c2]) ⟨_, rfl, a, c, rfl, hs.below B0.out⟩ ⟨_, rfl, a2, c2, rfl, hs2.below B0.out⟩)
 have HN : Hid (kDD x y = ((x.elem.toList == y.elem.toList) && kE1 x.shape y.shape)) := hJ rfl
 clear hs hs2
 by_cases hc : (x.elem.toList == y.elem.toList) = true
 · have HF : Hid (kDD x y = kE1 x.shape y.shape) := hJ (by rw [HN.out, hc]; rfl)
   go_enter func34, ntmps34
   go_wp2_with fail
   refine (HC.out).mono ?_
   rintro e w1 ⟨rfl, hb⟩
   go_wp2_with fail
   go_ret
   exact ⟨by rw [HF.out]; rfl, B0.out.trans (hb.mono B0.out.size)⟩
 · have hc : (x.elem.toList == y.elem.toList) = false := by simpa using hc
   have HF : Hid (kDD x y = false) := hJ (by rw [HN.out, hc]; rfl)
   go_enter func34, ntmps34
   go_wp2_with fail
   go_ret
   exact ⟨by rw [HF.out]; rfl, B0.out⟩
def kFR (a b : Ent) : Bool := seq a.name b.name && kFF a.scheme b.scheme
def kGW (a b : Ifc) : Bool := seq a.module_ b.module_ && kA2 kFR a.entries b.entries
theorem eqEnt_iff (a b : Ent) : kFR a b = true ↔ a = b := by
 unfold kFR
 rw [Bool.and_eq_true, kA7, eqSch_iff]
 constructor
 · rintro ⟨h1, h2⟩; cases a; cases b; simp_all
 · rintro rfl; exact ⟨rfl, rfl⟩
theorem eqIfc_iff (a b : Ifc) : kGW a b = true ↔ a = b := by
 unfold kGW
 rw [Bool.and_eq_true, kA7, kCZ _ eqEnt_iff]
 constructor
 · rintro ⟨h1, h2⟩; cases a; cases b; simp_all
 · rintro rfl; exact ⟨rfl, rfl⟩
theorem signature_Equal_1 {S T : Blk} {x y : Ent} {cs ds : List Value} {w : World} (h : REnt.rd S w cs x) (h2 : REnt.rd T w ds y) :
 Calls Tryz.prog 44 #[.agg cs.toArray, .agg ds.toArray] w fun e w' => e = .returned (.bool (kFR x y)) ∧ Below w.heap.size w w' := by
 obtain ⟨_, rfl, hx⟩ := h; obtain ⟨_, rfl, hy⟩ := h2; have HX := hJ hx; have HY := hJ hy; obtain ⟨_, _, _, rfl, ⟨ap, cp, rfl, _⟩, ⟨at_, ct, rfl, _⟩, ⟨aq, cq, rfl, _⟩⟩ := hx; obtain ⟨_, _, _, rfl, ⟨ap2, cp2, rfl, _⟩, ⟨at2, ct2, rfl, _⟩, ⟨aq2, cq2, rfl, _⟩⟩ := hy; obtain ⟨B0, ya, yb, hW0⟩ := box2 w 43 [.string x.name, .slice ap x.scheme.params.length cp, .string x.scheme.result.elem, .string x.scheme.result.shape.row, .slice at_ x.scheme.result.shape.dims.length ct, .slice aq x.scheme.wh.length cq] 43 [.string y.name, .slice ap2 y.scheme.params.length cp2, .string y.scheme.result.elem, .string y.scheme.result.shape.row, .slice at2 y.scheme.result.shape.dims.length ct2, .slice aq2 y.scheme.wh.length cq2]; have xa0 := box0 ya 0 _ rfl; have xa1 := box0 ya 1 _ rfl; have xa2 := box0 ya 2 _ rfl; have xa3 := box0 ya 3 _ rfl; have xa4 := box0 ya 4 _ rfl; have xa5 := box0 ya 5 _ rfl; have xb0 := box0 yb 0 _ rfl; have xb1 := box0 yb 1 _ rfl; have xb2 := box0 yb 2 _ rfl; have xb3 := box0 yb 3 _ rfl; have xb4 := box0 yb 4 _ rfl; have xb5 := box0 yb 5 _ rfl; clear ya yb; have HC := hJ (types_EqualScheme (RSch.below HX.out B0.out) (RSch.below HY.out B0.out))
 have HN : Hid (kFR x y = ((x.name.toList == y.name.toList) && kFF x.scheme y.scheme)) := hJ rfl
 by_cases hc : (x.name.toList == y.name.toList) = true
 · have HF : Hid (kFR x y = kFF x.scheme y.scheme) := hJ (by rw [HN.out, hc]; rfl)
   go_enter func44, ntmps44
   go_wp2_with fail
   refine (HC.out).mono ?_
   rintro e w1 ⟨rfl, hb⟩
   go_wp2_with fail
   go_ret
   exact ⟨by rw [HF.out]; rfl, B0.out.trans (hb.mono B0.out.size)⟩
 · have hc : (x.name.toList == y.name.toList) = false := by simpa using hc
   have HF : Hid (kFR x y = false) := hJ (by rw [HN.out, hc]; rfl)
   go_enter func44, ntmps44
   go_wp2_with fail
   go_ret
   exact ⟨by rw [HF.out]; rfl, B0.out⟩
theorem signature_byName {S T : Blk} {x y : Ent} {cs ds : List Value} {w : World} (h : REnt.rd S w cs x) (h2 : REnt.rd T w ds y) :
 Calls Tryz.prog 26 #[.agg cs.toArray, .agg ds.toArray] w fun e w' => e = .returned (.int .i64 (cmpS x.name y.name)) ∧ Below w.heap.size w w' := by
 obtain ⟨_, rfl, hx⟩ := h; obtain ⟨_, rfl, hy⟩ := h2; obtain ⟨_, _, _, rfl, ⟨ap, cp, rfl, _⟩, ⟨at_, ct, rfl, _⟩, ⟨aq, cq, rfl, _⟩⟩ := hx; obtain ⟨_, _, _, rfl, ⟨ap2, cp2, rfl, _⟩, ⟨at2, ct2, rfl, _⟩, ⟨aq2, cq2, rfl, _⟩⟩ := hy; obtain ⟨B0, ya, yb, hW0⟩ := box2 w 43 [.string x.name, .slice ap x.scheme.params.length cp, .string x.scheme.result.elem, .string x.scheme.result.shape.row, .slice at_ x.scheme.result.shape.dims.length ct, .slice aq x.scheme.wh.length cq] 43 [.string y.name, .slice ap2 y.scheme.params.length cp2, .string y.scheme.result.elem, .string y.scheme.result.shape.row, .slice at2 y.scheme.result.shape.dims.length ct2, .slice aq2 y.scheme.wh.length cq2]; have xa0 := box0 ya 0 _ rfl; have xa1 := box0 ya 1 _ rfl; have xa2 := box0 ya 2 _ rfl; have xa3 := box0 ya 3 _ rfl; have xa4 := box0 ya 4 _ rfl; have xa5 := box0 ya 5 _ rfl; have xb0 := box0 yb 0 _ rfl; have xb1 := box0 yb 1 _ rfl; have xb2 := box0 yb 2 _ rfl; have xb3 := box0 yb 3 _ rfl; have xb4 := box0 yb 4 _ rfl; have xb5 := box0 yb 5 _ rfl; clear ya yb
 go_enter func26, ntmps26
 go_wp2_with fail
 refine (kF5 _ _ _).mono ?_
 rintro e _ ⟨rfl, rfl⟩
 go_wp2_with fail
 go_ret
 exact ⟨rfl, B0.out⟩
theorem signature_Equal {S T : Blk} {x y : Ifc} {a a2 : Option Addr} {c c2 : Nat} {w : World} (hs : Sl REnt S w a x.entries.length c x.entries) (hs2 : Sl REnt T w a2 y.entries.length c2 y.entries) :
 Calls Tryz.prog 22 #[.agg #[.string x.module_, .slice a x.entries.length c], .agg #[.string y.module_, .slice a2 y.entries.length c2]] w fun e w' => e = .returned (.bool (kGW x y)) ∧ Below w.heap.size w w' := by
 obtain ⟨B0, ya, yb, hW0⟩ := box2 w 29 [.string x.module_, .slice a x.entries.length c] 29 [.string y.module_, .slice a2 y.entries.length c2]; have xa0 := box0 ya 0 _ rfl; have xa1 := box0 ya 1 _ rfl; have xb0 := box0 yb 0 _ rfl; have xb1 := box0 yb 1 _ rfl; clear ya yb
 have HC := hJ (equal_Ent x.entries y.entries a a2 _ _ c c2 _ (hs.below B0.out) (hs2.below B0.out) _ (kBM func44 rfl rfl) kFR (fun W x y cs ds _ _ _ h1 h2 => signature_Equal_1 h1 h2))
 have HN : Hid (kGW x y = ((x.module_.toList == y.module_.toList) && kA2 kFR x.entries y.entries)) := hJ rfl
 clear hs hs2
 by_cases hc : (x.module_.toList == y.module_.toList) = true
 · have HF : Hid (kGW x y = kA2 kFR x.entries y.entries) := hJ (by rw [HN.out, hc]; rfl)
   go_enter func22, ntmps22
   go_wp2_with fail
   refine (HC.out).mono ?_
   rintro e w1 ⟨rfl, hb⟩
   go_wp2_with fail
   go_ret
   exact ⟨by rw [HF.out]; rfl, B0.out.trans (hb.mono B0.out.size)⟩
 · have hc : (x.module_.toList == y.module_.toList) = false := by simpa using hc
   have HF : Hid (kGW x y = false) := hJ (by rw [HN.out, hc]; rfl)
   go_enter func22, ntmps22
   go_wp2_with fail
   go_ret
   exact ⟨by rw [HF.out]; rfl, B0.out⟩
def kAQ : List Coef → Str → Int
 | [], _ => 0
 | t :: l, v => if seq t.v v then t.c else kAQ l v
def Srt (l : List Coef) : Prop := l.Pairwise fun a b => slt a.v b.v = true
def Nz (l : List Coef) : Prop := ∀ t ∈ l, t.c ≠ 0
def Bd (n : Int) (l : List Coef) : Prop := ∀ t ∈ l, -n ≤ t.c ∧ t.c ≤ n
def kBC (s : Str) (c : Int) (p : Bool × List Coef) (t : Coef) : Bool × List Coef :=
 if seq t.v s then (true, (if !p.1 && slt s t.v then p.2 ++ [⟨s, c⟩] else p.2) ++ [⟨t.v, t.c + c⟩])
 else (p.1 || slt s t.v, (if !p.1 && slt s t.v then p.2 ++ [⟨s, c⟩] else p.2) ++ [t])
def plusRun (s : Str) (c : Int) (l : List Coef) : Bool × List Coef := l.foldl (kBC s c) (false, [])
def plusF (l : List Coef) (s : Str) (c : Int) : List Coef := if (plusRun s c l).1 then (plusRun s c l).2 else (plusRun s c l).2 ++ [⟨s, c⟩]
def nzB (t : Coef) : Bool := t.c != 0
def plus (l : List Coef) (s : Str) (c : Int) : List Coef := (plusF l s c).filter nzB
def ins (s : Str) (c : Int) : List Coef → List Coef
 | [] => [⟨s, c⟩]
 | t :: l => if slt s t.v then ⟨s, c⟩ :: t :: l else if seq t.v s then ⟨t.v, t.c + c⟩ :: l else t :: ins s c l
theorem slt_ne {a b : Str} (h : slt a b = true) : seq a b = false := by
 rw [Bool.eq_false_iff]
 intro e
 rw [(kA7 a b).1 e, kBZ] at h
 cases h
theorem slt_ne' {a b : Str} (h : slt a b = true) : seq b a = false := by rw [kGL]; exact slt_ne h
theorem run_put (s : Str) (c : Int) : ∀ (l : List Coef) (acc : List Coef), (∀ t ∈ l, slt s t.v = true) → l.foldl (kBC s c) (true, acc) = (true, acc ++ l)
 | [], acc, _ => by simp
 | t :: l, acc, h => by
   have ht := h t (List.mem_cons_self ..); rw [List.foldl_cons]
   have : kBC s c (true, acc) t = (true, acc ++ [t]) := by
    unfold kBC
    rw [slt_ne' ht]; simp
   rw [this, run_put s c l _ (fun u hu => h u (List.mem_cons_of_mem _ hu))]
   simp
theorem run_srt (s : Str) (c : Int) : ∀ (l : List Coef) (acc : List Coef), Srt l → (let p := l.foldl (kBC s c) (false, acc); if p.1 then p.2 else p.2 ++ [⟨s, c⟩]) = acc ++ ins s c l
 | [], acc, _ => by simp [ins]
 | t :: l, acc, h => by
   have h1 := (List.pairwise_cons.1 h).1; have h2 := (List.pairwise_cons.1 h).2; rw [List.foldl_cons]
   by_cases hs : slt s t.v = true
   · have : kBC s c (false, acc) t = (true, acc ++ [⟨s, c⟩] ++ [t]) := by
      unfold kBC
      rw [slt_ne' hs, hs]; simp
     rw [this, run_put s c l _ (fun u hu => kBR hs (h1 u hu))]
     simp [ins, hs]
   · have hs : slt s t.v = false := by simpa using hs
     by_cases he : seq t.v s = true
     · have : kBC s c (false, acc) t = (true, acc ++ [⟨t.v, t.c + c⟩]) := by
        unfold kBC
        rw [he, hs]; simp
       have hv := (kA7 _ _).1 he
       rw [this, run_put s c l _ (fun u hu => hv ▸ h1 u hu)]
       simp [ins, hs, he]
     · have he : seq t.v s = false := by simpa using he
       have : kBC s c (false, acc) t = (false, acc ++ [t]) := by
        unfold kBC
        rw [he, hs]; simp
       rw [this, run_srt s c l _ h2]
       simp [ins, hs, he]
theorem kEB {l : List Coef} (h : Srt l) (s : Str) (c : Int) : plusF l s c = ins s c l := by
 have := run_srt s c l [] h
 rw [List.nil_append] at this
 exact this
theorem ins_mem (s : Str) (c : Int) : ∀ (l : List Coef) (t : Coef), t ∈ ins s c l → t.v = s ∨ t ∈ l
 | [], t, h => by simp [ins] at h; subst h; exact .inl rfl
 | u :: l, t, h => by
   unfold ins at h
   split at h
   · rcases List.mem_cons.1 h with rfl | h
     · exact .inl rfl
     · exact .inr h
   · split at h
     · next he =>
       rcases List.mem_cons.1 h with rfl | h
       · exact .inl ((kA7 _ _).1 he)
       · exact .inr (List.mem_cons_of_mem _ h)
     · rcases List.mem_cons.1 h with rfl | h
       · exact .inr (List.mem_cons_self ..)
       · rcases ins_mem s c l t h with q | q
         · exact .inl q
         · exact .inr (List.mem_cons_of_mem _ q)
theorem ins_srt (s : Str) (c : Int) : ∀ (l : List Coef), Srt l → Srt (ins s c l)
 | [], _ => by simp [ins, Srt]
 | t :: l, h => by
   have h1 := (List.pairwise_cons.1 h).1; have h2 := (List.pairwise_cons.1 h).2
   unfold ins
   split
   · next hs => exact List.pairwise_cons.2 ⟨fun u hu => by
      rcases List.mem_cons.1 hu with rfl | hu
      · exact hs
      · exact kBR hs (h1 u hu), h⟩
   · next hs =>
     split
     · exact List.pairwise_cons.2 ⟨h1, h2⟩
     · next he =>
       refine List.pairwise_cons.2 ⟨fun u hu => ?_, ins_srt s c l h2⟩
       rcases ins_mem s c l u hu with q | q
       · rw [q]
         cases hq : slt t.v s with
         | true => rfl
         | false => exact absurd ((kA7 _ _).2 (kCO hq (by simpa using hs))) he
       · exact h1 u q
theorem kDO : ∀ (l : List Coef) (v : Str), (∀ t ∈ l, seq t.v v = false) → kAQ l v = 0
 | [], _, _ => rfl
 | t :: l, v, h => by
   unfold kAQ
   rw [h t (List.mem_cons_self ..)]
   exact kDO l v (fun u hu => h u (List.mem_cons_of_mem _ hu))
theorem kC6 {a b v : Str} (h : seq a b = true) : seq a v = seq b v := by rw [(kA7 a b).1 h]
theorem ins_coef (s : Str) (c : Int) (v : Str) : ∀ (l : List Coef), Srt l → kAQ (ins s c l) v = kAQ l v + if seq s v then c else 0
 | [], _ => by simp [ins, kAQ]
 | t :: l, h => by
   have h1 := (List.pairwise_cons.1 h).1; have h2 := (List.pairwise_cons.1 h).2
   unfold ins
   split
   · next hs =>
     by_cases hv : seq s v = true
     · have : kAQ (t :: l) v = 0 := kDO _ _ (fun u hu => by
        rw [← kGL, ← kC6 hv, ]
        rcases List.mem_cons.1 hu with rfl | hu
        · exact slt_ne hs
        · exact slt_ne (kBR hs (h1 u hu)))
       rw [this, hv]
       simp [kAQ, hv]
     · have hv : seq s v = false := by simpa using hv
       rw [hv]
       conv => lhs; unfold kAQ
       rw [hv]
       simp
   · split
     · next he =>
       conv => lhs; unfold kAQ
       conv => rhs; unfold kAQ
       show (if seq t.v v then t.c + c else kAQ l v) = _
       rw [kC6 he]
       split <;> simp
     · next he =>
       conv => lhs; unfold kAQ
       conv => rhs; unfold kAQ
       rw [ins_coef s c v l h2]
       split
       · next hv =>
         have : seq s v = false := by
          rw [Bool.eq_false_iff]
          intro q
          exact he ((kA7 _ _).2 (((kA7 _ _).1 hv).trans ((kA7 _ _).1 q).symm))
         rw [this]; simp
       · rfl
theorem kGC (v : Str) : ∀ (l : List Coef), Srt l → kAQ (l.filter nzB) v = kAQ l v
 | [], _ => rfl
 | t :: l, h => by
   have h1 := (List.pairwise_cons.1 h).1; have h2 := (List.pairwise_cons.1 h).2; rw [List.filter_cons]
   split
   · unfold kAQ; rw [kGC v l h2]
   · next hz =>
     have hz : t.c = 0 := by simpa [nzB] using hz
     conv => rhs; unfold kAQ
     rw [kGC v l h2]
     split
     · next hv => rw [hz]; exact kDO _ _ (fun u hu => by rw [kGL, ← kC6 hv]; exact slt_ne (h1 u hu))
     · rfl
theorem filter_srt {l : List Coef} (h : Srt l) : Srt (l.filter nzB) := List.Pairwise.sublist List.filter_sublist h
theorem filter_nz (l : List Coef) : Nz (l.filter nzB) := fun t ht => by
 have := (List.mem_filter.1 ht).2
 simpa [nzB] using this
theorem kGQ {l : List Coef} (h : Srt l) (s : Str) (c : Int) : Srt (plus l s c) := by
 unfold plus; rw [kEB h]; exact filter_srt (ins_srt s c l h)
theorem plus_nz (l : List Coef) (s : Str) (c : Int) : Nz (plus l s c) := filter_nz _
theorem plus_coef {l : List Coef} (h : Srt l) (s : Str) (c : Int) (v : Str) : kAQ (plus l s c) v = kAQ l v + if seq s v then c else 0 := by
 unfold plus; rw [kEB h, kGC v _ (ins_srt s c l h), ins_coef s c v l h]
theorem kEH {l : List Coef} (h : Srt l) {t : Coef} (ht : t ∈ l) : kAQ l t.v = t.c := by
 induction l with
 | nil => cases ht
 | cons u l ih =>
   have h1 := (List.pairwise_cons.1 h).1; have h2 := (List.pairwise_cons.1 h).2
   unfold kAQ
   rcases List.mem_cons.1 ht with rfl | ht
   · rw [seq_refl]; rfl
   · rw [slt_ne (h1 t ht)]; exact ih h2 ht
theorem mem_coefAt {l : List Coef} {v : Str} (h : kAQ l v ≠ 0) : ∃ t ∈ l, t.v = v := by
 induction l with
 | nil => exact absurd rfl h
 | cons u l ih =>
   unfold kAQ at h
   split at h
   · next q => exact ⟨u, List.mem_cons_self .., (kA7 _ _).1 q⟩
   · obtain ⟨t, ht, e⟩ := ih h
     exact ⟨t, List.mem_cons_of_mem _ ht, e⟩
theorem srt_ext : ∀ (l l2 : List Coef), Srt l → Srt l2 → Nz l → Nz l2 → (∀ v, kAQ l v = kAQ l2 v) → l = l2
 | [], [], _, _, _, _, _ => rfl
 | [], b :: l2, _, h2, _, n2, e => by
   have := e b.v
   rw [kEH h2 (List.mem_cons_self ..)] at this
   exact absurd this.symm (n2 b (List.mem_cons_self ..))
 | a :: l, [], h1, _, n1, _, e => by
   have := e a.v
   rw [kEH h1 (List.mem_cons_self ..)] at this
   exact absurd this (n1 a (List.mem_cons_self ..))
 | a :: l, b :: l2, h1, h2, n1, n2, e => by
   have p1 := (List.pairwise_cons.1 h1).1; have p2 := (List.pairwise_cons.1 h2).1; have ea := e a.v; rw [kEH h1 (List.mem_cons_self ..)] at ea; have eb := e b.v; rw [kEH h2 (List.mem_cons_self ..)] at eb
   obtain ⟨ta, hta, va⟩ := mem_coefAt (l := b :: l2) (v := a.v) (by rw [← ea]; exact n1 a (List.mem_cons_self ..))
   obtain ⟨tb, htb, vb⟩ := mem_coefAt (l := a :: l) (v := b.v) (by rw [eb]; exact n2 b (List.mem_cons_self ..))
   have hv : a.v = b.v := by
    rcases List.mem_cons.1 hta with rfl | hta
    · exact va.symm
    · rcases List.mem_cons.1 htb with rfl | htb
      · exact vb
      · have q1 := p2 ta hta
        have q2 := p1 tb htb; rw [va] at q1; rw [vb] at q2; rw [kE8 q1] at q2
        cases q2
   have hc : a.c = b.c := by rw [ea, hv]; exact kEH h2 (List.mem_cons_self ..)
   obtain rfl : a = b := by cases a; cases b; simp only at hv hc; subst hv hc; rfl
   congr 1
   refine srt_ext l l2 (List.pairwise_cons.1 h1).2 (List.pairwise_cons.1 h2).2 (fun t ht => n1 t (List.mem_cons_of_mem _ ht)) (fun t ht => n2 t (List.mem_cons_of_mem _ ht)) (fun v => ?_)
   by_cases hq : seq a.v v = true
   · rw [kDO l v (fun u hu => by rw [kGL, ← kC6 hq]; exact slt_ne (p1 u hu)), kDO l2 v (fun u hu => by rw [kGL, ← kC6 hq]; exact slt_ne (p2 u hu))]
   · have := e v
     unfold kAQ at this
     have hq : seq a.v v = false := by simpa using hq
     rw [hq] at this
     simpa using this
theorem ins_len (s : Str) (c : Int) : ∀ l : List Coef, (ins s c l).length ≤ l.length + 1
 | [] => by simp [ins]
 | t :: l => by
   unfold ins
   have := ins_len s c l
   split
   · simp
   · split
     · simp
     · simp; exact this
theorem plus_len {l : List Coef} (h : Srt l) (s : Str) (c : Int) : (plus l s c).length ≤ l.length + 1 := by
 unfold plus
 rw [kEB h]
 exact Nat.le_trans (List.length_filter_le ..) (ins_len s c l)
theorem ins_bd (s : Str) (c : Int) (n m : Int) (hc : -m ≤ c ∧ c ≤ m) (hn : 0 ≤ n) (hm : 0 ≤ m) : ∀ l : List Coef, Bd n l → Bd (n + m) (ins s c l)
 | [], _ => fun t ht => by simp [ins] at ht; subst ht; simp only; omega
 | u :: l, h => fun t ht => by
   have hu := h u (List.mem_cons_self ..)
   have hw : ∀ t ∈ u :: l, -(n + m) ≤ t.c ∧ t.c ≤ n + m := fun t ht => by have := h t ht; omega
   unfold ins at ht
   split at ht
   · rcases List.mem_cons.1 ht with rfl | ht
     · simp only; omega
     · exact hw t ht
   · split at ht
     · rcases List.mem_cons.1 ht with rfl | ht
       · simp only; omega
       · exact hw t (List.mem_cons_of_mem _ ht)
     · rcases List.mem_cons.1 ht with rfl | ht
       · exact hw _ (List.mem_cons_self ..)
       · exact ins_bd s c n m hc hn hm l (fun t ht => h t (List.mem_cons_of_mem _ ht)) t ht
theorem plus_bd {l : List Coef} (h : Srt l) (s : Str) (c : Int) {n m : Int} (hb : Bd n l) (hc : -m ≤ c ∧ c ≤ m) (hn : 0 ≤ n) (hm : 0 ≤ m) : Bd (n + m) (plus l s c) := by
 unfold plus
 rw [kEB h]
 exact fun t ht => ins_bd s c n m hc hn hm l hb t (List.mem_filter.1 ht).1
def kBK (l : List Coef) (x : List Coef) (k : Int) : List Coef := x.foldl (fun a t => plus a t.v (k * t.c)) l
def kB8 (l x : Lin) (k : Int) : Lin := ⟨l.const + k * x.const, kBK l.terms x.terms k⟩
theorem times_srt (x : List Coef) (k : Int) : ∀ l : List Coef, Srt l → Srt (kBK l x k) := by
 induction x with
 | nil => exact fun l h => h
 | cons t x ih => exact fun l h => ih _ (kGQ h _ _)
theorem times_nz (x : List Coef) (k : Int) : ∀ l : List Coef, Nz l → Nz (kBK l x k) := by
 induction x with
 | nil => exact fun l h => h
 | cons t x ih => exact fun l h => ih _ (plus_nz _ _ _)
theorem times_len (x : List Coef) (k : Int) : ∀ l : List Coef, Srt l → (kBK l x k).length ≤ l.length + x.length := by
 induction x with
 | nil => exact fun l h => Nat.le_refl _
 | cons t x ih =>
   intro l h
   have h1 := ih _ (kGQ h t.v (k * t.c)); have h2 := plus_len h t.v (k * t.c); rw [List.length_cons]
   show (kBK (plus l t.v (k * t.c)) x k).length ≤ _
   omega
theorem mul_bd {k c n m : Int} (hk : -n ≤ k ∧ k ≤ n) (hc : -m ≤ c ∧ c ≤ m) : -(n * m) ≤ k * c ∧ k * c ≤ n * m := by
 have hn : 0 ≤ n := by omega
 have hm : 0 ≤ m := by omega
 have h1 : k.natAbs ≤ n.toNat := by omega
 have h2 : c.natAbs ≤ m.toNat := by omega
 have h3 : (k * c).natAbs ≤ (n * m).toNat := by
  rw [Int.natAbs_mul, Int.toNat_mul hn hm]
  exact Nat.mul_le_mul h1 h2
 have h4 : 0 ≤ n * m := Int.mul_nonneg hn hm
 omega
theorem times_bd (x : List Coef) (k : Int) (hk : -1000000 ≤ k ∧ k ≤ 1000000) (hx : Bd 1000000 x) : ∀ (l : List Coef) (n : Int), 0 ≤ n → Srt l → Bd n l → Bd (n + x.length * 1000000000000) (kBK l x k) := by
 induction x with
 | nil => intro l n hn hs h; simpa [kBK] using h
 | cons t x ih =>
   intro l n hn hs h
   have hc := mul_bd hk (hx t (List.mem_cons_self ..))
   have h1 := ih (fun u hu => hx u (List.mem_cons_of_mem _ hu)) (plus l t.v (k * t.c)) (n + 1000000 * 1000000) (by omega) (kGQ hs _ _) (plus_bd hs _ _ h hc hn (by decide))
   have e : n + 1000000 * 1000000 + (x.length : Int) * 1000000000000 = n + ((t :: x).length : Int) * 1000000000000 := by rw [List.length_cons]; omega
   rw [e] at h1
   exact h1
structure TotC {α : Type} (cmp : α → α → Int) : Prop where
 zero : ∀ a b, cmp a b = 0 ↔ a = b
 anti : ∀ a b, cmp b a = -cmp a b
 trans : ∀ a b c, cmp a b < 0 → cmp b c < 0 → cmp a c < 0
def SS {α : Type} (cmp : α → α → Int) (l : List α) : Prop := l.Pairwise fun a b => cmp a b < 0
def Le {α : Type} (cmp : α → α → Int) (l : List α) : Prop := l.Pairwise fun a b => cmp a b ≤ 0
def insU {α : Type} (cmp : α → α → Int) (x : α) : List α → List α
 | [] => [x]
 | y :: l => if cmp y x < 0 then y :: insU cmp x l else if cmp y x = 0 then y :: l else x :: y :: l
theorem insU_mem {α : Type} {cmp : α → α → Int} (t : TotC cmp) (x z : α) : ∀ l : List α, z ∈ insU cmp x l ↔ z = x ∨ z ∈ l
 | [] => by simp [insU]
 | y :: l => by
   unfold insU
   split
   · rw [List.mem_cons, insU_mem t x z l, List.mem_cons]
     constructor
     · rintro (h | h | h)
       · exact .inr (.inl h)
       · exact .inl h
       · exact .inr (.inr h)
     · rintro (h | h | h)
       · exact .inr (.inl h)
       · exact .inl h
       · exact .inr (.inr h)
   · split
     · next h =>
       have := (t.zero _ _).1 h
       subst this
       simp
     · simp
theorem insU_ss {α : Type} {cmp : α → α → Int} (t : TotC cmp) (x : α) : ∀ l : List α, SS cmp l → SS cmp (insU cmp x l)
 | [], _ => by simp [insU, SS]
 | y :: l, h => by
   have h1 := (List.pairwise_cons.1 h).1; have h2 := (List.pairwise_cons.1 h).2
   unfold insU
   split
   · next hy =>
     refine List.pairwise_cons.2 ⟨fun z hz => ?_, insU_ss t x l h2⟩
     rcases (insU_mem t x z l).1 hz with rfl | q
     · exact hy
     · exact h1 z q
   · next hy =>
     split
     · exact h
     · next hz =>
       have hxy : cmp x y < 0 := by have := t.anti y x; omega
       refine List.pairwise_cons.2 ⟨fun z hz => ?_, h⟩
       rcases List.mem_cons.1 hz with rfl | q
       · exact hxy
       · exact t.trans _ _ _ hxy (h1 z q)
theorem ss_ext {α : Type} {cmp : α → α → Int} (t : TotC cmp) : ∀ (l l2 : List α), SS cmp l → SS cmp l2 → (∀ x, x ∈ l ↔ x ∈ l2) → l = l2
 | [], [], _, _, _ => rfl
 | [], b :: l2, _, _, e => absurd ((e b).2 (List.mem_cons_self ..)) (by simp)
 | a :: l, [], _, _, e => absurd ((e a).1 (List.mem_cons_self ..)) (by simp)
 | a :: l, b :: l2, h1, h2, e => by
   have p1 := (List.pairwise_cons.1 h1).1; have p2 := (List.pairwise_cons.1 h2).1
   have irr : ∀ x, ¬ cmp x x < 0 := fun x h => by have := (t.zero x x).2 rfl; omega
   have hab : a = b := by
    rcases List.mem_cons.1 ((e a).1 (List.mem_cons_self ..)) with q | q
    · exact q
    · rcases List.mem_cons.1 ((e b).2 (List.mem_cons_self ..)) with r | r
      · exact r.symm
      · exact absurd (t.trans _ _ _ (p2 a q) (p1 b r)) (irr b)
   subst hab
   congr 1
   refine ss_ext t l l2 (List.pairwise_cons.1 h1).2 (List.pairwise_cons.1 h2).2 (fun x => ?_)
   constructor
   · intro hx
     rcases List.mem_cons.1 ((e x).1 (List.mem_cons_of_mem _ hx)) with q | q
     · subst q; exact absurd (p1 _ hx) (irr _)
     · exact q
   · intro hx
     rcases List.mem_cons.1 ((e x).2 (List.mem_cons_of_mem _ hx)) with q | q
     · subst q; exact absurd (p2 _ hx) (irr _)
     · exact q
def tidyG {α : Type} (cmp : α → α → Int) (d : α → Bool) (l : List α) : List α := l.foldl (fun out x => if d x then out else insU cmp x out) []
theorem kGJ {α : Type} {cmp : α → α → Int} (t : TotC cmp) (d : α → Bool) : ∀ (l out : List α), SS cmp out → SS cmp (l.foldl (fun out x => if d x then out else insU cmp x out) out) ∧ ∀ z, z ∈ l.foldl (fun out x => if d x then out else insU cmp x out) out ↔ (z ∈ out ∨ z ∈ l ∧ d z = false)
 | [], out, h => ⟨h, fun z => by simp⟩
 | x :: l, out, h => by
   rw [List.foldl_cons]
   cases hd : d x with
   | true =>
     obtain ⟨q1, q2⟩ := kGJ t d l out h
     refine ⟨q1, fun z => (q2 z).trans ?_⟩
     rw [List.mem_cons]
     constructor
     · rintro (h | ⟨h1, h2⟩)
       · exact .inl h
       · exact .inr ⟨.inr h1, h2⟩
     · rintro (h | ⟨rfl | h1, h2⟩)
       · exact .inl h
       · rw [hd] at h2; cases h2
       · exact .inr ⟨h1, h2⟩
   | false =>
     obtain ⟨q1, q2⟩ := kGJ t d l (insU cmp x out) (insU_ss t x out h)
     refine ⟨q1, fun z => (q2 z).trans ?_⟩
     rw [insU_mem t, List.mem_cons]
     constructor
     · rintro ((rfl | h) | ⟨h1, h2⟩)
       · exact .inr ⟨.inl rfl, hd⟩
       · exact .inl h
       · exact .inr ⟨.inr h1, h2⟩
     · rintro (h | ⟨rfl | h1, h2⟩)
       · exact .inl (.inr h)
       · exact .inl (.inl rfl)
       · exact .inr ⟨h1, h2⟩
theorem tidyG_ss {α : Type} {cmp : α → α → Int} (t : TotC cmp) (d : α → Bool) (l : List α) : SS cmp (tidyG cmp d l) := (kGJ t d l [] List.Pairwise.nil).1
theorem tidyG_mem {α : Type} {cmp : α → α → Int} (t : TotC cmp) (d : α → Bool) (l : List α) (z : α) : z ∈ tidyG cmp d l ↔ z ∈ l ∧ d z = false := by
 have := (kGJ t d l [] List.Pairwise.nil).2 z
 simpa [tidyG] using this
def kGZ {α : Type} (eq : α → α → Bool) : List α → List α
 | [] => []
 | [a] => [a]
 | a :: b :: l => if eq a b then kGZ eq (a :: l) else a :: kGZ eq (b :: l)
 termination_by l => l.length
theorem compG_ok {α : Type} {cmp : α → α → Int} (t : TotC cmp) {eq : α → α → Bool} (he : ∀ a b, eq a b = true ↔ a = b) : ∀ l : List α, Le cmp l → SS cmp (kGZ eq l) ∧ ∀ z, z ∈ kGZ eq l ↔ z ∈ l
 | [], _ => ⟨by unfold kGZ; exact List.Pairwise.nil, fun z => by unfold kGZ; rfl⟩
 | [a], _ => ⟨by unfold kGZ; simp [SS], fun z => by unfold kGZ; rfl⟩
 | a :: b :: l, h => by
   have h1 := (List.pairwise_cons.1 h).1; have h2 := (List.pairwise_cons.1 h).2
   unfold kGZ
   split
   · next q =>
     have := (he _ _).1 q
     subst this; obtain ⟨q1, q2⟩ := compG_ok t he (a :: l) h2
     exact ⟨q1, fun z => (q2 z).trans (by simp)⟩
   · next q =>
     obtain ⟨q1, q2⟩ := compG_ok t he (b :: l) h2
     refine ⟨List.pairwise_cons.2 ⟨fun z hz => ?_, q1⟩, fun z => by rw [List.mem_cons, q2 z, List.mem_cons (a := z) (b := a)]⟩
     have hb := h1 b (List.mem_cons_self ..)
     have hab : cmp a b < 0 := by
      have : cmp a b ≠ 0 := fun r => q ((he _ _).2 ((t.zero _ _).1 r))
      omega
     rcases List.mem_cons.1 ((q2 z).1 hz) with rfl | r
     · exact hab
     · have h3 := (List.pairwise_cons.1 h2).1 z r
       by_cases h4 : cmp b z = 0
       · rw [← (t.zero _ _).1 h4]; exact hab
       · exact t.trans _ _ _ hab (by omega)
 termination_by l => l.length
theorem comp_tidy {α : Type} {cmp : α → α → Int} (t : TotC cmp) {eq : α → α → Bool} (he : ∀ a b, eq a b = true ↔ a = b) (d : α → Bool) (l m : List α) (hm : Le cmp m) (hp : ∀ z, z ∈ m ↔ z ∈ l.filter (fun x => !d x)) : kGZ eq m = tidyG cmp d l := by
 obtain ⟨q1, q2⟩ := compG_ok t he m hm
 refine ss_ext t _ _ q1 (tidyG_ss t d l) (fun x => ?_)
 rw [q2 x, hp x, tidyG_mem t, List.mem_filter]
 simp
theorem adj_pair : ∀ (l : List Coef), (∀ i, 0 < i → i < l.length → slt (l.getD (i - 1) default).v (l.getD i default).v = true) → Srt l
 | [], _ => List.Pairwise.nil
 | [a], _ => List.pairwise_cons.2 ⟨fun u hu => by simp at hu, List.Pairwise.nil⟩
 | a :: b :: l, h => by
   have ih := adj_pair (b :: l) (fun i h0 hi => by
    have := h (i + 1) (by omega) (by simp at hi ⊢; omega)
    obtain ⟨j, rfl⟩ : ∃ j, i = j + 1 := ⟨i - 1, by omega⟩
    simpa using this)
   have hab : slt a.v b.v = true := by simpa using h 1 (by omega) (by simp)
   refine List.pairwise_cons.2 ⟨fun u hu => ?_, ih⟩
   rcases List.mem_cons.1 hu with rfl | hu
   · exact hab
   · exact kBR hab ((List.pairwise_cons.1 ih).1 u hu)
theorem kBF {x : Lin} (h : kAD x = true) : Srt x.terms ∧ Nz x.terms ∧ Bd 1000000 x.terms ∧ (∀ t ∈ x.terms, kBB t.v = true) ∧ (-1000000 ≤ x.const ∧ x.const ≤ 1000000) ∧ x.terms.length ≤ 12 := by
 unfold kAD at h
 rw [Bool.and_eq_true, Bool.and_eq_true] at h; obtain ⟨⟨h1, h2⟩, h3⟩ := h
 unfold kE7 at h1
 rw [List.all_eq_true] at h1
 have hi : ∀ i, i < x.terms.length → kBB (x.terms.getD i default).v = true ∧ (x.terms.getD i default).c ≠ 0 ∧ (-1000000 ≤ (x.terms.getD i default).c ∧ (x.terms.getD i default).c ≤ 1000000) ∧ (0 < i → slt (x.terms.getD (i - 1) default).v (x.terms.getD i default).v = true) := fun i hi => by
  have := h1 i (List.mem_range.2 hi)
  unfold kD5 at this
  rw [Bool.and_eq_true, Bool.and_eq_true, Bool.and_eq_true, Bool.or_eq_true] at this; obtain ⟨⟨⟨q1, q2⟩, q3⟩, q4⟩ := this
  refine ⟨q1, by simpa using q2, by simpa [kB4] using q3, fun h0 => ?_⟩
  rcases q4 with q4 | q4
  · have : i = 0 := by simpa using q4
    omega
  · exact q4
 have hm : ∀ t ∈ x.terms, ∃ i, i < x.terms.length ∧ x.terms.getD i default = t := fun t ht => by
  obtain ⟨i, hi, e⟩ := List.getElem_of_mem ht
  exact ⟨i, hi, by rw [List.getD_eq_getElem?_getD, List.getElem?_eq_getElem hi]; exact e⟩
 refine ⟨adj_pair _ fun i h0 hlt => (hi i hlt).2.2.2 h0, fun t ht => ?_, fun t ht => ?_, fun t ht => ?_, by simpa [kB4] using h2, of_decide_eq_true h3⟩
 · obtain ⟨i, hlt, rfl⟩ := hm t ht; exact (hi i hlt).2.1
 · obtain ⟨i, hlt, rfl⟩ := hm t ht; exact (hi i hlt).2.2.1
 · obtain ⟨i, hlt, rfl⟩ := hm t ht; exact (hi i hlt).1
theorem varL_valid {s : Str} (h : kBB s = true) : kAD (varL s) = true := by
 unfold kAD varL kE7
 simp [kD5, h, kB4, List.range_succ]
def sub1 (b : List Bnd) (v : Str) : Lin := if b.any (isB 1 v) then bndL b v else varL v
def kDE (b : List Bnd) (c : Int) (ts : List Coef) : Lin := ts.foldl (fun acc t => kB8 acc (sub1 b t.v) t.c) ⟨c, []⟩
def kAF (b : List Bnd) (x : Lin) : Lin := kDE b x.const x.terms
def GoodB (b : List Bnd) : Prop := ∀ y ∈ b, y.kind = 1 → kAD y.dim = true
theorem kFH {α : Type} [Inhabited α] {p : α → Bool} {l : List α} (h : l.any p = true) : l.findIdx p < l.length ∧ p (l.getD (l.findIdx p) default) = true := by
 obtain ⟨x, hx, hp⟩ := List.any_eq_true.1 h; have hlt := List.findIdx_lt_length_of_exists ⟨x, hx, hp⟩
 refine ⟨hlt, ?_⟩
 rw [List.getD_eq_getElem?_getD, List.getElem?_eq_getElem hlt]
 exact List.findIdx_getElem
theorem kFK {b : List Bnd} (h : GoodB b) {v : Str} (hv : kBB v = true) : kAD (sub1 b v) = true := by
 unfold sub1
 split
 · next q =>
   unfold bndL
   rw [if_pos q]; obtain ⟨h1, h2⟩ := kFH q
   refine h _ (kAI h1) ?_
   unfold isB at h2
   rw [Bool.and_eq_true, beq_iff_eq] at h2
   exact h2.1
 · exact varL_valid hv
structure SumOk (n : Nat) (x : Lin) : Prop where
 srt : Srt x.terms
 nz : Nz x.terms
 bd : Bd (n * 12000000000000) x.terms
 lo : -(1000000 + (n : Int) * 1000000000000) ≤ x.const
 hi : x.const ≤ 1000000 + (n : Int) * 1000000000000
 len : x.terms.length ≤ n * 12
theorem SumOk.times {n : Nat} {x y : Lin} (h : SumOk n x) (hy : kAD y = true) {k : Int} (hk : -1000000 ≤ k ∧ k ≤ 1000000) : SumOk (n + 1) (kB8 x y k) := by
 obtain ⟨q1, q2, q3, q4, q5, q6⟩ := kBF hy; have hm := mul_bd hk q5; have h1 := h.lo; have h2 := h.hi; have h3 := h.len
 refine ⟨times_srt _ _ _ h.srt, times_nz _ _ _ h.nz, fun t ht => ?_, ?_, ?_, ?_⟩
 · have := times_bd y.terms k hk q3 x.terms ((n : Int) * 12000000000000) (by omega) h.srt h.bd t ht
   omega
 · show _ ≤ x.const + k * y.const
   omega
 · show x.const + k * y.const ≤ _
   omega
 · have := times_len y.terms k x.terms h.srt
   show (kBK x.terms y.terms k).length ≤ _
   omega
theorem subRun_ok {b : List Bnd} (hg : GoodB b) {c : Int} (hc : -1000000 ≤ c ∧ c ≤ 1000000) (ts : List Coef) (ht : ∀ t ∈ ts, kBB t.v = true ∧ (-1000000 ≤ t.c ∧ t.c ≤ 1000000)) : SumOk ts.length (kDE b c ts) := by
 suffices H : ∀ (ts : List Coef) (n : Nat) (acc : Lin), (∀ t ∈ ts, kBB t.v = true ∧ (-1000000 ≤ t.c ∧ t.c ≤ 1000000)) → SumOk n acc → SumOk (n + ts.length) (ts.foldl (fun acc t => kB8 acc (sub1 b t.v) t.c) acc) by
  have := H ts 0 ⟨c, []⟩ ht ⟨List.Pairwise.nil, fun t ht => by simp at ht, fun t ht => by simp at ht, by simp only; omega, by simp only; omega, by simp⟩
  rwa [Nat.zero_add] at this
 intro ts
 induction ts with
 | nil => exact fun n acc _ h => h
 | cons t ts ih =>
   intro n acc ht h
   have h1 := ht t (List.mem_cons_self ..)
   have := ih (n + 1) _ (fun u hu => ht u (List.mem_cons_of_mem _ hu)) (h.times (kFK hg h1.1) h1.2)
   rwa [List.length_cons, show n + (ts.length + 1) = n + 1 + ts.length by omega]
theorem subRun_take {b : List Bnd} {c : Int} {ts : List Coef} {k : Nat} (h : k < ts.length) : kDE b c (ts.take (k + 1)) = kB8 (kDE b c (ts.take k)) (sub1 b (ts.getD k default).v) (ts.getD k default).c := by
 unfold kDE
 rw [kAU h, List.foldl_append]; rfl
theorem valid_take {x : Lin} (h : kAD x = true) {b : List Bnd} (hg : GoodB b) (k : Nat) (hk : k ≤ x.terms.length) : SumOk k (kDE b x.const (x.terms.take k)) := by
 obtain ⟨q1, q2, q3, q4, q5, q6⟩ := kBF h
 have := subRun_ok hg q5 (x.terms.take k) (fun t ht => ⟨q4 t (List.mem_of_mem_take ht), q3 t (List.mem_of_mem_take ht)⟩)
 rwa [List.length_take, Nat.min_eq_left hk] at this
def kDW (s : Shp) : Bool := s.row.toList.isEmpty && s.dims.length == 0
def kCM (b : Bnd) : Bool :=
 if b.kind = 1 then kBB b.v && (kAD b.dim && (kDW b.row && b.elem.toList.isEmpty))
 else if b.kind = 2 then kBB b.v && (kAL b.row && (zeroL b.dim && b.elem.toList.isEmpty))
 else if b.kind = 3 then kAV b.v && (kEG b.elem && (zeroL b.dim && kDW b.row)) else false
def bndOk (l : List Bnd) (i : Nat) : Bool := kCM (l.getD i default) && decide (kBA (l.take i) (l.getD i default).kind (l.getD i default).v < 0)
def kBG (l : List Bnd) : Bool := (List.range l.length).all (bndOk l)
theorem kE6 {l : List Bnd} (h : kBG l = true) {y : Bnd} (hy : y ∈ l) : kCM y = true := by
 obtain ⟨i, hi, e⟩ := List.getElem_of_mem hy
 have := (List.all_eq_true.1 h) i (List.mem_range.2 hi)
 unfold bndOk at this
 rw [Bool.and_eq_true] at this; rw [List.getD_eq_getElem?_getD, List.getElem?_eq_getElem hi] at this
 simp only [Option.getD_some] at this
 rw [← e]; exact this.1
theorem kC0 {l : List Bnd} (h : kBG l = true) : GoodB l := fun y hy hk => by
 have := kE6 h hy
 unfold kCM at this
 rw [if_pos hk, Bool.and_eq_true, Bool.and_eq_true] at this
 exact this.2.1
def kCE (b : List Bnd) (s : Shp) : Shp := if s.row.toList.isEmpty then ⟨s.row, []⟩ else if 0 ≤ kBA b 2 s.row then (b.getD (kBA b 2 s.row).toNat default).row else ⟨s.row, []⟩
def dimsOk (b : List Bnd) (s : Shp) : Bool := s.dims.all (fun x => kAD (kAF b x))
def kF4 (b : List Bnd) (s : Shp) : Shp := ⟨(kCE b s).row, (kCE b s).dims ++ s.dims.map (kAF b)⟩
def kA5 (b : List Bnd) (s : Shp) : Bool := dimsOk b s && decide ((kCE b s).dims.length + s.dims.length ≤ 6)
def noShp : Shp := ⟨⟨#[]⟩, []⟩
def kFT (b : List Bnd) (s : Shp) : Shp := if kA5 b s then kF4 b s else noShp
def kCN (b : List Bnd) (s : Shp) : Int := if kA5 b s then 0 else 3
def subEl (b : List Bnd) (e : Str) : Str := if 0 ≤ kBA b 3 e then (b.getD (kBA b 3 e).toNat default).elem else e
def kAX (b : List Bnd) (t : Typ) : Typ := ⟨subEl b t.elem, kF4 b t.shape⟩
def kDL : Typ := ⟨⟨#[]⟩, noShp⟩
def subTyp (b : List Bnd) (t : Typ) : Typ := if kA5 b t.shape then kAX b t else kDL
def kCF (b : List Bnd) (s : Sch) : Sch := ⟨s.params.map (kAX b), kAX b s.result, s.wh.map (kAF b)⟩
def kBN (b : List Bnd) (s : Sch) : Bool := kAJ s && (kBG b && (s.params.all (fun t => kA5 b t.shape) && (kA5 b s.result.shape && s.wh.all (fun x => kAD (kAF b x)))))
def kCQ : Sch := ⟨[], kDL, []⟩
theorem ordI_neg (a b : Int) : ordI a b < 0 ↔ a < b := by
 unfold ordI
 constructor
 · intro h
   split at h
   · assumption
   · split at h <;> omega
 · intro h; rw [if_pos h]; decide
theorem ordI_anti (a b : Int) : ordI b a = -ordI a b := by
 rcases Int.lt_trichotomy a b with h | h | h
 · unfold ordI; rw [if_neg (by omega), if_pos h, if_pos h]; rfl
 · subst h; rw [(kC8 a a).2 rfl]; rfl
 · unfold ordI; rw [if_pos h, if_neg (by omega), if_pos h]
theorem cmpCoef_anti (a b : Coef) : kAY b a = -kAY a b := by
 unfold kAY
 cases h1 : slt a.v b.v with
 | true => rw [kE8 h1]; rfl
 | false =>
   cases h2 : slt b.v a.v with
   | true => rfl
   | false => exact ordI_anti _ _
theorem cmpCoef_neg (a b : Coef) : kAY a b < 0 ↔ slt a.v b.v = true ∨ a.v = b.v ∧ a.c < b.c := by
 unfold kAY
 cases h1 : slt a.v b.v with
 | true => simp
 | false =>
   cases h2 : slt b.v a.v with
   | true =>
     simp
     intro e
     rw [e, kBZ] at h2
     cases h2
   | false =>
     have := kCO h1 h2
     simp [ordI_neg, this]
theorem cmpCoef_trans (a b c : Coef) (h1 : kAY a b < 0) (h2 : kAY b c < 0) : kAY a c < 0 := by
 rw [cmpCoef_neg] at *
 rcases h1 with h1 | ⟨e1, h1⟩
 · rcases h2 with h2 | ⟨e2, h2⟩
   · exact .inl (kBR h1 h2)
   · exact .inl (e2 ▸ h1)
 · rcases h2 with h2 | ⟨e2, h2⟩
   · exact .inl (by rw [e1]; exact h2)
   · exact .inr ⟨e1.trans e2, by omega⟩
theorem kG0 : ∀ (l l2 : List Coef), kAP l2 l = -kAP l l2
 | [], [] => rfl
 | [], _ :: _ => rfl
 | _ :: _, [] => rfl
 | a :: x, b :: y => by
   unfold kAP
   rw [cmpCoef_anti a b]
   by_cases h : kAY a b = 0
   · rw [if_pos h, if_pos (by omega), kG0 x y]
   · rw [if_neg h, if_neg (by omega)]
theorem kFY : ∀ (l m n : List Coef), kAP l m < 0 → kAP m n < 0 → kAP l n < 0
 | [], [], _, h, _ => by simp [kAP] at h
 | [], _ :: _, [], _, h => by simp [kAP] at h
 | [], _ :: _, _ :: _, _, _ => by simp [kAP]
 | _ :: _, [], _, h, _ => by simp [kAP] at h
 | _ :: _, _ :: _, [], _, h => by simp [kAP] at h
 | a :: x, b :: y, c :: z, h1, h2 => by
   unfold kAP at *
   by_cases e1 : kAY a b = 0
   · rw [if_pos e1] at h1
     have := (kDX a b).1 e1
     subst this
     by_cases e2 : kAY a c = 0
     · rw [if_pos e2] at h2 ⊢
       exact kFY x y z h1 h2
     · rw [if_neg e2] at h2 ⊢
       exact h2
   · rw [if_neg e1] at h1
     by_cases e2 : kAY b c = 0
     · have := (kDX b c).1 e2
       subst this
       rw [if_neg e1]; exact h1
     · rw [if_neg e2] at h2
       have := cmpCoef_trans a b c h1 h2
       rw [if_neg (by omega)]; exact this
theorem totLin : TotC kAZ where
 zero := cmpLin_zero
 anti := fun a b => by
  unfold kAZ
  rw [kG0 a.terms b.terms]
  by_cases h : kAP a.terms b.terms = 0
  · rw [if_pos h, if_pos (by omega)]; exact ordI_anti _ _
  · rw [if_neg h, if_neg (by omega)]
 trans := fun a b c h1 h2 => by
  unfold kAZ at *
  by_cases e1 : kAP a.terms b.terms = 0
  · rw [if_pos e1] at h1
    rw [(kCT _ _).1 e1]
    by_cases e2 : kAP b.terms c.terms = 0
    · rw [if_pos e2] at h2 ⊢
      rw [ordI_neg] at *
      omega
    · rw [if_neg e2] at h2 ⊢
      exact h2
  · rw [if_neg e1] at h1
    by_cases e2 : kAP b.terms c.terms = 0
    · rw [← (kCT _ _).1 e2, if_neg e1]; exact h1
    · rw [if_neg e2] at h2
      have := kFY _ _ _ h1 h2
      rw [if_neg (by omega)]; exact this
def dropL (x : Lin) : Bool := x.terms.length == 0 && decide (0 ≤ x.const)
def tidy (l : List Lin) : List Lin := tidyG kAZ dropL l
def addBs (out vs : List Bnd) : List Bnd := vs.foldl (fun o x => addV o x.kind x.v) out
def kA1 (s : Sch) : List Bnd := if kAJ s then addAll ((allT s).foldl (fun o t => addBs o (kBQ t)) []) (s.wh.flatMap kAN) else []
def cntK (k : Int) (l : List Bnd) : Nat := l.countP (fun b => b.kind == k)
def nm (c : UInt8) (n : Nat) : Str := ⟨#[c]⟩ ++ ⟨(Lib.decDigits n).toArray⟩
def renB (n : Nat) (b : Bnd) : Bnd := if b.kind = 1 then ⟨b.kind, b.v, varL (nm 110 n), b.row, b.elem⟩ else if b.kind = 2 then ⟨b.kind, b.v, b.dim, ⟨nm 114 n, b.row.dims⟩, b.elem⟩ else ⟨b.kind, b.v, b.dim, b.row, nm 65 n⟩
def kE0 (l : List Bnd) (i : Nat) : Bnd := renB (cntK (l.getD i default).kind (l.take (i + 1))) (l.getD i default)
def ren (l : List Bnd) : List Bnd := (List.range l.length).map (kE0 l)
def canR (s : Sch) : Sch := let b := ren (kA1 s); ⟨s.params.map (kAX b), kAX b s.result, tidy (s.wh.map (kAF b))⟩
def kEW (s : Sch) : Bool := kBN (ren (kA1 s)) s
def can (s : Sch) : Sch := if kEW s then canR s else kCQ
theorem tidy_mem (l : List Lin) (x : Lin) (h : x ∈ tidy l) : x ∈ l := ((tidyG_mem totLin dropL l x).1 h).1
theorem insU_len {α : Type} (cmp : α → α → Int) (x : α) : ∀ l : List α, (insU cmp x l).length ≤ l.length + 1
 | [] => by simp [insU]
 | y :: l => by
   have := insU_len cmp x l
   unfold insU
   split
   · simp; exact this
   · split <;> simp
theorem tidyG_len {α : Type} (cmp : α → α → Int) (d : α → Bool) : ∀ (l out : List α), (l.foldl (fun out x => if d x then out else insU cmp x out) out).length ≤ out.length + l.length
 | [], out => by simp
 | x :: l, out => by
   rw [List.foldl_cons, List.length_cons]
   split
   · have := tidyG_len cmp d l out; omega
   · have h1 := tidyG_len cmp d l (insU cmp x out)
     have h2 := insU_len cmp x out
     omega
theorem tidy_len (l : List Lin) : (tidy l).length ≤ l.length := by have := tidyG_len kAZ dropL l []; simpa [tidy, tidyG] using this
theorem any_not {α : Type} {p : α → Bool} {l : List α} (h : ∀ x ∈ l, p x = true) : l.any (fun x => !p x) = false := by
 rw [List.any_eq_false]
 intro x hx
 rw [h x hx]; decide
theorem kFS {t : Typ} (h : kAK t = true) : kEG t.elem = true ∧ rowB t.shape.row = true ∧ t.shape.dims.length ≤ 6 ∧ ∀ x ∈ t.shape.dims, kAD x = true := by
 unfold kAK at h
 rw [Bool.and_eq_true] at h; have h2 := kBW h.2; have h3 := h.2
 unfold kAL at h3
 rw [Bool.and_eq_true] at h3
 exact ⟨h.1, h3.1, h2.1, h2.2⟩
theorem validTyp_mk {t : Typ} (h1 : kEG t.elem = true) (h2 : rowB t.shape.row = true) (h3 : t.shape.dims.length ≤ 6) (h4 : ∀ x ∈ t.shape.dims, kAD x = true) : kAK t = true := by
 unfold kAK kAL
 rw [h1, h2, decide_eq_true h3, any_not h4]; rfl
theorem kAT {s : Sch} (h : kAJ s = true) : s.params.length ≤ 12 ∧ s.wh.length ≤ 60 ∧ (∀ t ∈ s.params, kAK t = true) ∧ kAK s.result = true ∧ ∀ x ∈ s.wh, kAD x = true := by
 unfold kAJ at h
 rw [Bool.and_eq_true, Bool.and_eq_true, Bool.and_eq_true, Bool.and_eq_true] at h; obtain ⟨h1, h2, h3, h4, h5⟩ := h
 refine ⟨of_decide_eq_true h1, of_decide_eq_true h2, fun t ht => ?_, h4, fun x hx => ?_⟩
 · rw [Bool.not_eq_true'] at h3
   have := (List.any_eq_false.1 h3) t ht
   simpa using this
 · rw [Bool.not_eq_true'] at h5
   have := (List.any_eq_false.1 h5) x hx
   simpa using this
theorem validSch_mk {s : Sch} (h1 : s.params.length ≤ 12) (h2 : s.wh.length ≤ 60) (h3 : ∀ t ∈ s.params, kAK t = true) (h4 : kAK s.result = true) (h5 : ∀ x ∈ s.wh, kAD x = true) : kAJ s = true := by
 unfold kAJ
 rw [decide_eq_true h1, decide_eq_true h2, any_not h3, h4, any_not h5]; rfl
theorem find_hit {l : List Bnd} {k : Int} {v : Str} (h : 0 ≤ kBA l k v) : l.getD (kBA l k v).toNat default ∈ l ∧ (l.getD (kBA l k v).toNat default).kind = k := by
 unfold kBA idx at *
 by_cases ha : l.any (isB k v) = true
 · rw [if_pos ha] at h ⊢
   obtain ⟨h1, h2⟩ := kFH ha; rw [Int.toNat_natCast]
   refine ⟨kAI h1, ?_⟩
   unfold isB at h2
   rw [Bool.and_eq_true, beq_iff_eq] at h2
   exact h2.1
 · rw [if_neg ha] at h; omega
theorem subRow_valid {b : List Bnd} (hb : kBG b = true) {s : Shp} (hs : rowB s.row = true) : rowB (kCE b s).row = true ∧ ∀ x ∈ (kCE b s).dims, kAD x = true := by
 unfold kCE
 split
 · exact ⟨hs, fun x hx => by simp at hx⟩
 · split
   · next q =>
     obtain ⟨h1, h2⟩ := find_hit q
     have := kE6 hb h1
     unfold kCM at this
     rw [if_neg (by omega), if_pos h2, Bool.and_eq_true, Bool.and_eq_true] at this
     have hv := this.2.1
     refine ⟨?_, (kBW hv).2⟩
     unfold kAL at hv
     rw [Bool.and_eq_true] at hv
     exact hv.1
   · exact ⟨hs, fun x hx => by simp at hx⟩
theorem subEl_valid {b : List Bnd} (hb : kBG b = true) {e : Str} (he : kEG e = true) : kEG (subEl b e) = true := by
 unfold subEl
 split
 · next q =>
   obtain ⟨h1, h2⟩ := find_hit q
   have := kE6 hb h1
   unfold kCM at this
   rw [if_neg (by omega), if_neg (by omega), if_pos h2, Bool.and_eq_true, Bool.and_eq_true] at this
   exact this.2.1
 · exact he
theorem subTyp_valid {b : List Bnd} (hb : kBG b = true) {t : Typ} (ht : kAK t = true) (ho : kA5 b t.shape = true) : kAK (kAX b t) = true := by
 obtain ⟨h1, h2, h3, h4⟩ := kFS ht; obtain ⟨r1, r2⟩ := subRow_valid hb h2
 unfold kA5 at ho
 rw [Bool.and_eq_true] at ho
 refine validTyp_mk (subEl_valid hb h1) r1 ?_ ?_
 · show ((kCE b t.shape).dims ++ t.shape.dims.map (kAF b)).length ≤ 6
   rw [List.length_append, List.length_map]
   exact of_decide_eq_true ho.2
 · intro x hx
   rcases List.mem_append.1 hx with q | q
   · exact r2 x q
   · obtain ⟨y, hy, rfl⟩ := List.mem_map.1 q
     exact (List.all_eq_true.1 ho.1) y hy
theorem can_valid {s : Sch} (h : kEW s = true) : kAJ (canR s) = true := by
 unfold kEW kBN at h
 unfold canR
 generalize ren (kA1 s) = b at *
 rw [Bool.and_eq_true, Bool.and_eq_true, Bool.and_eq_true, Bool.and_eq_true] at h; obtain ⟨hv, hb, hp, hr, hw⟩ := h; obtain ⟨h1, h2, h3, h4, h5⟩ := kAT hv
 refine validSch_mk ?_ ?_ ?_ ?_ ?_
 · show (s.params.map _).length ≤ 12
   rw [List.length_map]; exact h1
 · have := tidy_len (s.wh.map (kAF b))
   rw [List.length_map] at this
   exact Nat.le_trans this h2
 · intro t ht
   obtain ⟨u, hu, rfl⟩ := List.mem_map.1 ht
   exact subTyp_valid hb (h3 u hu) ((List.all_eq_true.1 hp) u hu)
 · exact subTyp_valid hb h4 hr
 · intro x hx
   obtain ⟨y, hy, rfl⟩ := List.mem_map.1 (tidy_mem _ x hx)
   exact (List.all_eq_true.1 hw) y hy
theorem kGB (c : Int) (w : World) : Calls Tryz.prog 98 #[.int .u8 c] w fun e w' => e = .returned (.bool (kA3 c)) ∧ w = w' := by
 unfold kA3
 by_cases h0 : 48 ≤ c <;> by_cases h1 : c ≤ 57
 all_goals
  go_enter func98, ntmps98
  go_wp2_with fail
  go_ret
  exact ⟨by simp [h0, h1], rfl⟩
theorem kDN (c : Int) (w : World) : Calls Tryz.prog 52 #[.int .u8 c] w fun e w' => e = .returned (.bool (kA6 c)) ∧ w = w' := by
 unfold kA6
 by_cases h0 : 97 ≤ c <;> by_cases h1 : c ≤ 122
 all_goals
  go_enter func52, ntmps52
  go_wp2_with fail
  go_ret
  exact ⟨by simp [h0, h1], rfl⟩
theorem extract_all (s : Str) : s.extract 0 s.size = s := by
 apply ByteArray.ext
 rw [ByteArray.data_extract]
 exact Array.extract_size
def runB (s : Str) (k : Nat) : Bool := kA3 (bt s k) || kA6 (bt s k)
theorem lexer_run (s : Str) (w : World) (hsz : s.size ≤ 281474976710656) : Calls Tryz.prog 53 #[.string s, .bool true] w fun e w' =>
 (∃ k : Nat, k ≤ s.size ∧ (∀ j, j < k → runB s j = true) ∧ (k < s.size → runB s k = false) ∧ e = .returned (.string (s.extract 0 k))) ∧ w = w' := by
 go_enter func53, ntmps53
 go_wp2_with fail
 go_loopw [5] (fun i wr => ∃ k : Nat, k ≤ s.size ∧ i = .int .i64 k ∧ Hid (∀ j, j < k → runB s j = true) ∧ w = wr) (fun i _ => s.size - (intOf i).toNat)
 case atStart => exact ⟨0, by omega, rfl, hJ (fun j hj => absurd hj (by omega)), rfl⟩
 case round =>
  obtain ⟨k, hk, rfl, HT, rfl⟩ := hrel
  by_cases hlt : k < s.size
  · have q1 : decide ((k : Int) < (s.size : Int)) = true := decide_eq_true (by omega)
    have gk := kFD s k hlt
    have HR : Hid (runB s k = (kA3 (bt s k) || kA6 (bt s k))) := hJ rfl
    have HG : Hid (runB s k = true → ∀ j, j < k + 1 → runB s j = true) := hJ (fun q j hj => by
     rcases Nat.lt_or_ge j k with r | r
     · exact HT.out j r
     · obtain rfl : j = k := by omega
       exact q)
    generalize bt s k = c at *
    by_cases hd : kA3 c = true
    · have HGo := hJ (HG.out (by rw [HR.out, hd]; rfl))
      go_wp2_with fail
      refine (kGB _ _).mono ?_
      rintro e _ ⟨rfl, rfl⟩
      go_wp2_with fail
      go_roundw
      case rel => exact ⟨k + 1, by omega, by go_num, HGo, trivial⟩
      case measure => simp [intOf]; omega
    · have hd : kA3 c = false := by simpa using hd
      by_cases hl : kA6 c = true
      · have HGo := hJ (HG.out (by rw [HR.out, hd, hl]; rfl))
        go_wp2_with fail
        refine (kGB _ _).mono ?_
        rintro e _ ⟨rfl, rfl⟩
        go_wp2_with fail
        refine (kDN _ _).mono ?_
        rintro e _ ⟨rfl, rfl⟩
        go_wp2_with fail
        go_roundw
        case rel => exact ⟨k + 1, by omega, by go_num, HGo, trivial⟩
        case measure => simp [intOf]; omega
      · have hl : kA6 c = false := by simpa using hl
        have HF : Hid (runB s k = false) := hJ (by rw [HR.out, hd, hl]; rfl)
        go_wp2_with fail
        refine (kGB _ _).mono ?_
        rintro e _ ⟨rfl, rfl⟩
        go_wp2_with fail
        refine (kDN _ _).mono ?_
        rintro e _ ⟨rfl, rfl⟩
        go_wp2_with fail
        go_ret
        exact ⟨⟨k, hk, HT.out, fun _ => HF.out, rfl⟩, rfl⟩
  · obtain rfl : k = s.size := by omega
    have q1 : decide ((s.size : Int) < (s.size : Int)) = false := decide_eq_false (by omega)
    go_wp2_with fail
    go_ret
    exact ⟨⟨s.size, hk, HT.out, fun q => absurd q (Nat.lt_irrefl _), by rw [extract_all]; rfl⟩, rfl⟩
def kAW : List (List UInt8) := [[98, 111, 111, 108], [100, 101, 102], [101, 120, 112, 111, 114, 116], [102, 97, 108, 115, 101], [102, 111, 108, 100], [105, 109, 112, 111, 114, 116], [105, 110], [105, 110, 116], [108, 101, 116], [109, 111, 100, 117, 108, 101], [115, 99, 97, 110], [115, 105, 122, 101], [116, 114, 117, 101], [119, 104, 101, 114, 101]]
def kAR (s : Str) : Bool := kAW.any (fun r => s.toList == r)
theorem lexer_Reserved (s : Str) (w : World) : Calls Tryz.prog 54 #[.string s] w fun e w' => e = .returned (.bool (kAR s)) ∧ w = w' := by
 have HR : Hid (kAR s = kAW.any (fun r => s.toList == r)) := hJ rfl
 by_cases h0 : (s.toList == [98, 111, 111, 108]) = true
 case pos =>
  have HF : Hid (kAR s = true) := hJ (by rw [HR.out]; simp only [kAW, List.any_cons, h0, Bool.or_true, Bool.true_or])
  go_enter func54, ntmps54
  go_wp2_with fail
  go_ret
  exact ⟨by rw [HF.out]; rfl, rfl⟩
 have h0 : (s.toList == [98, 111, 111, 108]) = false := by simpa using h0
 by_cases h1 : (s.toList == [100, 101, 102]) = true
 case pos =>
  have HF : Hid (kAR s = true) := hJ (by rw [HR.out]; simp only [kAW, List.any_cons, h1, Bool.or_true, Bool.true_or])
  go_enter func54, ntmps54
  go_wp2_with fail
  go_ret
  exact ⟨by rw [HF.out]; rfl, rfl⟩
 have h1 : (s.toList == [100, 101, 102]) = false := by simpa using h1
 by_cases h2 : (s.toList == [101, 120, 112, 111, 114, 116]) = true
 case pos =>
  have HF : Hid (kAR s = true) := hJ (by rw [HR.out]; simp only [kAW, List.any_cons, h2, Bool.or_true, Bool.true_or])
  go_enter func54, ntmps54
  go_wp2_with fail
  go_ret
  exact ⟨by rw [HF.out]; rfl, rfl⟩
 have h2 : (s.toList == [101, 120, 112, 111, 114, 116]) = false := by simpa using h2
 by_cases h3 : (s.toList == [102, 97, 108, 115, 101]) = true
 case pos =>
  have HF : Hid (kAR s = true) := hJ (by rw [HR.out]; simp only [kAW, List.any_cons, h3, Bool.or_true, Bool.true_or])
  go_enter func54, ntmps54
  go_wp2_with fail
  go_ret
  exact ⟨by rw [HF.out]; rfl, rfl⟩
 have h3 : (s.toList == [102, 97, 108, 115, 101]) = false := by simpa using h3
 by_cases h4 : (s.toList == [102, 111, 108, 100]) = true
 case pos =>
  have HF : Hid (kAR s = true) := hJ (by rw [HR.out]; simp only [kAW, List.any_cons, h4, Bool.or_true, Bool.true_or])
  go_enter func54, ntmps54
  go_wp2_with fail
  go_ret
  exact ⟨by rw [HF.out]; rfl, rfl⟩
 have h4 : (s.toList == [102, 111, 108, 100]) = false := by simpa using h4
 by_cases h5 : (s.toList == [105, 109, 112, 111, 114, 116]) = true
 case pos =>
  have HF : Hid (kAR s = true) := hJ (by rw [HR.out]; simp only [kAW, List.any_cons, h5, Bool.or_true, Bool.true_or])
  go_enter func54, ntmps54
  go_wp2_with fail
  go_ret
  exact ⟨by rw [HF.out]; rfl, rfl⟩
 have h5 : (s.toList == [105, 109, 112, 111, 114, 116]) = false := by simpa using h5
 by_cases h6 : (s.toList == [105, 110]) = true
 case pos =>
  have HF : Hid (kAR s = true) := hJ (by rw [HR.out]; simp only [kAW, List.any_cons, h6, Bool.or_true, Bool.true_or])
  go_enter func54, ntmps54
  go_wp2_with fail
  go_ret
  exact ⟨by rw [HF.out]; rfl, rfl⟩
 have h6 : (s.toList == [105, 110]) = false := by simpa using h6
 by_cases h7 : (s.toList == [105, 110, 116]) = true
 case pos =>
  have HF : Hid (kAR s = true) := hJ (by rw [HR.out]; simp only [kAW, List.any_cons, h7, Bool.or_true, Bool.true_or])
  go_enter func54, ntmps54
  go_wp2_with fail
  go_ret
  exact ⟨by rw [HF.out]; rfl, rfl⟩
 have h7 : (s.toList == [105, 110, 116]) = false := by simpa using h7
 by_cases h8 : (s.toList == [108, 101, 116]) = true
 case pos =>
  have HF : Hid (kAR s = true) := hJ (by rw [HR.out]; simp only [kAW, List.any_cons, h8, Bool.or_true, Bool.true_or])
  go_enter func54, ntmps54
  go_wp2_with fail
  go_ret
  exact ⟨by rw [HF.out]; rfl, rfl⟩
 have h8 : (s.toList == [108, 101, 116]) = false := by simpa using h8
 by_cases h9 : (s.toList == [109, 111, 100, 117, 108, 101]) = true
 case pos =>
  have HF : Hid (kAR s = true) := hJ (by rw [HR.out]; simp only [kAW, List.any_cons, h9, Bool.or_true, Bool.true_or])
  go_enter func54, ntmps54
  go_wp2_with fail
  go_ret
  exact ⟨by rw [HF.out]; rfl, rfl⟩
 have h9 : (s.toList == [109, 111, 100, 117, 108, 101]) = false := by simpa using h9
 by_cases h10 : (s.toList == [115, 99, 97, 110]) = true
 case pos =>
  have HF : Hid (kAR s = true) := hJ (by rw [HR.out]; simp only [kAW, List.any_cons, h10, Bool.or_true, Bool.true_or])
  go_enter func54, ntmps54
  go_wp2_with fail
  go_ret
  exact ⟨by rw [HF.out]; rfl, rfl⟩
 have h10 : (s.toList == [115, 99, 97, 110]) = false := by simpa using h10
 by_cases h11 : (s.toList == [115, 105, 122, 101]) = true
 case pos =>
  have HF : Hid (kAR s = true) := hJ (by rw [HR.out]; simp only [kAW, List.any_cons, h11, Bool.or_true, Bool.true_or])
  go_enter func54, ntmps54
  go_wp2_with fail
  go_ret
  exact ⟨by rw [HF.out]; rfl, rfl⟩
 have h11 : (s.toList == [115, 105, 122, 101]) = false := by simpa using h11
 by_cases h12 : (s.toList == [116, 114, 117, 101]) = true
 case pos =>
  have HF : Hid (kAR s = true) := hJ (by rw [HR.out]; simp only [kAW, List.any_cons, h12, Bool.or_true, Bool.true_or])
  go_enter func54, ntmps54
  go_wp2_with fail
  go_ret
  exact ⟨by rw [HF.out]; rfl, rfl⟩
 have h12 : (s.toList == [116, 114, 117, 101]) = false := by simpa using h12
 by_cases h13 : (s.toList == [119, 104, 101, 114, 101]) = true
 case pos =>
  have HF : Hid (kAR s = true) := hJ (by rw [HR.out]; simp only [kAW, List.any_cons, h13, Bool.or_true, Bool.true_or])
  go_enter func54, ntmps54
  go_wp2_with fail
  go_ret
  exact ⟨by rw [HF.out]; rfl, rfl⟩
 have h13 : (s.toList == [119, 104, 101, 114, 101]) = false := by simpa using h13
 have HF : Hid (kAR s = false) := hJ (by rw [HR.out]; simp only [kAW, List.any_cons, List.any_nil, h0, h1, h2, h3, h4, h5, h6, h7, h8, h9, h10, h11, h12, h13, Bool.or_false])
 go_enter func54, ntmps54
 go_wp2_with fail
 go_ret
 exact ⟨by rw [HF.out]; rfl, rfl⟩
def kA0 (s : Str) : Bool := decide (1 ≤ s.size ∧ s.size ≤ 30) && (kA6 (bt s 0) && ((List.range s.size).all (runB s) && !kAR s))
theorem extract_eq (s : Str) (k : Nat) (h : k ≤ s.size) : (s.extract 0 k).toList = s.toList ↔ k = s.size := by
 constructor
 · intro q
   rw [ByteArray.toList_eq, ByteArray.toList_eq, ByteArray.data_extract, Array.toList_extract] at q
   have := congrArg List.length q
   have e : s.data.toList.length = s.size := rfl
   simp only [List.extract_eq_take_drop, List.drop_zero, List.length_take, e] at this
   omega
 · rintro rfl
   rw [extract_all]
theorem lexer_run_at (s : Str) (hsz : s.size ≤ 281474976710656) : ∃ u : Str, (u.toList == s.toList) = (List.range s.size).all (runB s) ∧ ∀ w, Calls Tryz.prog 53 #[.string s, .bool true] w fun e w' => e = .returned (.string u) ∧ w = w' := by
 -- the place where it stops hangs on s alone
 have key : ∀ n k : Nat, k + n = s.size → (∀ j, j < k → runB s j = true) → ∃ m : Nat, m ≤ s.size ∧ (∀ j, j < m → runB s j = true) ∧ (m < s.size → runB s m = false) := by
  intro n
  induction n with
  | zero => intro k hk h; exact ⟨k, by omega, h, fun q => by omega⟩
  | succ n ih =>
    intro k hk h
    cases hr : runB s k with
    | false => exact ⟨k, by omega, h, fun _ => hr⟩
    | true => exact ih (k + 1) (by omega) (fun j hj => by
       rcases Nat.lt_or_ge j k with r | r
       · exact h j r
       · obtain rfl : j = k := by omega
         exact hr)
 obtain ⟨m, hm, h1, h2⟩ := key s.size 0 (by omega) (fun j hj => absurd hj (by omega))
 refine ⟨s.extract 0 m, ?_, fun w => (lexer_run s w hsz).mono ?_⟩
 · rw [Bool.eq_iff_iff, beq_iff_eq, extract_eq s m hm, List.all_eq_true]
   constructor
   · rintro rfl i hi
     exact h1 i (List.mem_range.1 hi)
   · intro h
     rcases Nat.lt_or_ge m s.size with q | q
     · have := h m (List.mem_range.2 q)
       rw [h2 q] at this
       cases this
     · omega
 · rintro e w' ⟨⟨k, hk, k1, k2, rfl⟩, rfl⟩
   have : k = m := by
    rcases Nat.lt_trichotomy k m with q | q | q
    · have := h1 k q
      rw [k2 (by omega)] at this
      cases this
    · exact q
    · have := k1 m q
      rw [h2 (by omega)] at this
      cases this
   subst this
   exact ⟨rfl, rfl⟩
theorem name_cases (s : Str) : kA0 s = (decide (1 ≤ s.size ∧ s.size ≤ 30) && (kA6 (bt s 0) && ((List.range s.size).all (runB s) && !kAR s))) := rfl
theorem kBU (s : Str) (w : World) (hsz : s.size ≤ 281474976710656) : Calls Tryz.prog 27 #[.string s] w fun e w' => e = .returned (.bool (kA0 s)) ∧ w = w' := by
 have HN := hJ (name_cases s)
 by_cases h0 : s.size = 0
 · have he : s.toList.isEmpty = true := by rw [ByteArray.toList_eq, show s.data.toList = [] from List.eq_nil_of_length_eq_zero h0]; rfl
   have HF : Hid (kA0 s = false) := hJ (by rw [HN.out, decide_eq_false (by omega)]; rfl)
   go_enter func27, ntmps27
   go_wp2_with fail
   go_ret
   exact ⟨by rw [HF.out]; rfl, rfl⟩
 have he : s.toList.isEmpty = false := by
  rw [ByteArray.toList_eq, List.isEmpty_eq_false_iff]
  exact fun q => h0 (by show s.data.toList.length = 0; rw [q]; rfl)
 by_cases h30 : 30 < s.size
 · have q1 : decide ((s.size : Int) ≤ 30) = false := decide_eq_false (by omega)
   have HF : Hid (kA0 s = false) := hJ (by rw [HN.out, decide_eq_false (by omega)]; rfl)
   go_enter func27, ntmps27
   go_wp2_with fail
   go_ret
   exact ⟨by rw [HF.out]; rfl, rfl⟩
 have q1 : decide ((s.size : Int) ≤ 30) = true := decide_eq_true (by omega)
 have HN : Hid (kA0 s = (kA6 (bt s 0) && ((List.range s.size).all (runB s) && !kAR s))) := hJ (by rw [HN.out, decide_eq_true (by omega)]; rfl)
 have hp0 : 0 < s.size := by omega
 have g0 := kFD s 0 hp0; obtain ⟨u, hu, hrun⟩ := lexer_run_at s hsz; have HRun := hJ hrun; clear hrun
 generalize bt s 0 = c at *
 by_cases hl : kA6 c = true
 · by_cases ha : (List.range s.size).all (runB s) = true
   · have hu2 : (u.toList == s.toList) = true := by rw [hu, ha]
     have HF : Hid (kA0 s = !kAR s) := hJ (by rw [HN.out, hl, ha]; rfl)
     clear hu ha
     go_enter func27, ntmps27
     go_wp2_with fail
     refine (kDN _ _).mono ?_
     rintro e _ ⟨rfl, rfl⟩
     go_wp2_with fail
     refine (HRun.out _).mono ?_
     rintro e _ ⟨rfl, rfl⟩
     go_wp2_with fail
     refine (lexer_Reserved _ _).mono ?_
     rintro e _ ⟨rfl, rfl⟩
     go_wp2_with fail
     go_ret
     exact ⟨by rw [HF.out]; rfl, rfl⟩
   · have ha : (List.range s.size).all (runB s) = false := by simpa using ha
     have hu2 : (u.toList == s.toList) = false := by rw [hu, ha]
     have HF : Hid (kA0 s = false) := hJ (by rw [HN.out, hl, ha]; rfl)
     clear hu ha
     go_enter func27, ntmps27
     go_wp2_with fail
     refine (kDN _ _).mono ?_
     rintro e _ ⟨rfl, rfl⟩
     go_wp2_with fail
     refine (HRun.out _).mono ?_
     rintro e _ ⟨rfl, rfl⟩
     go_wp2_with fail
     go_ret
     exact ⟨by rw [HF.out]; rfl, rfl⟩
 · have hl : kA6 c = false := by simpa using hl
   have HF : Hid (kA0 s = false) := hJ (by rw [HN.out, hl]; rfl)
   clear hu
   go_enter func27, ntmps27
   go_wp2_with fail
   refine (kDN _ _).mono ?_
   rintro e _ ⟨rfl, rfl⟩
   go_wp2_with fail
   go_ret
   exact ⟨by rw [HF.out]; rfl, rfl⟩
def goodE (x : Ent) : Bool := kEW x.scheme && kA0 x.name
def mkOk (m : Str) (l : List Ent) : Bool := kA0 m && l.all goodE
def canE (x : Ent) : Ent := ⟨x.name, can x.scheme⟩
def kCL : Ifc := ⟨⟨#[]⟩, []⟩
def Uni (l : List Ent) : Prop := l.Pairwise fun a b => a.name ≠ b.name
def Asc (l : List Ent) : Prop := l.Pairwise fun a b => slt a.name b.name = true
def Says (mod : Str) (l : List Ent) (out : Ifc) (e : Int) : Prop :=
 (mkOk mod l = false ∧ out = kCL ∧ e = 1) ∨ (mkOk mod l = true ∧ ¬Uni l ∧ out = kCL ∧ e = 8) ∨ (mkOk mod l = true ∧ Uni l ∧ e = 0 ∧ ∃ m : List Ent, m.Perm l ∧ Asc m ∧ out = ⟨mod, m.map canE⟩)
theorem pw_ext {α : Type} {r : α → α → Prop} (irr : ∀ a, ¬r a a) (tr : ∀ a b c, r a b → r b c → r a c) : ∀ (l l2 : List α), l.Pairwise r → l2.Pairwise r → (∀ x, x ∈ l ↔ x ∈ l2) → l = l2
 | [], [], _, _, _ => rfl
 | [], b :: l2, _, _, e => absurd ((e b).2 (List.mem_cons_self ..)) (by simp)
 | a :: l, [], _, _, e => absurd ((e a).1 (List.mem_cons_self ..)) (by simp)
 | a :: l, b :: l2, h1, h2, e => by
   have p1 := (List.pairwise_cons.1 h1).1; have p2 := (List.pairwise_cons.1 h2).1
   have hab : a = b := by
    rcases List.mem_cons.1 ((e a).1 (List.mem_cons_self ..)) with q | q
    · exact q
    · rcases List.mem_cons.1 ((e b).2 (List.mem_cons_self ..)) with r | r
      · exact r.symm
      · exact absurd (tr _ _ _ (p2 a q) (p1 b r)) (irr b)
   subst hab
   congr 1
   refine pw_ext irr tr l l2 (List.pairwise_cons.1 h1).2 (List.pairwise_cons.1 h2).2 (fun x => ?_)
   constructor
   · intro hx
     rcases List.mem_cons.1 ((e x).1 (List.mem_cons_of_mem _ hx)) with q | q
     · subst q; exact absurd (p1 _ hx) (irr _)
     · exact q
   · intro hx
     rcases List.mem_cons.1 ((e x).2 (List.mem_cons_of_mem _ hx)) with q | q
     · subst q; exact absurd (p2 _ hx) (irr _)
     · exact q
theorem Uni.perm {l l2 : List Ent} (h : l.Perm l2) (u : Uni l) : Uni l2 := h.pairwise u (fun hab => Ne.symm hab)
theorem uni_map {l : List Ent} {f : Ent → Ent} (hf : ∀ x ∈ l, (f x).name = x.name) : Uni (l.map f) ↔ Uni l := by
 unfold Uni
 rw [List.pairwise_map]
 constructor
 · intro h; exact h.imp_of_mem (fun {a b} ha hb q => by rw [hf a ha, hf b hb] at q; exact q)
 · intro h; exact h.imp_of_mem (fun {a b} ha hb q => by rw [hf a ha, hf b hb]; exact q)
theorem says_same {mod : Str} {l l' : List Ent} {f : Ent → Ent} {A B : Ifc} {e e' : Int} (h : Says mod l A e) (h' : Says mod (l'.map f) B e') (hp : l'.Perm l) (hf : ∀ x ∈ l, (f x).name = x.name ∧ goodE (f x) = goodE x ∧ can (f x).scheme = can x.scheme) : e = e' ∧ A = B := by
 have hf' : ∀ x ∈ l', (f x).name = x.name ∧ goodE (f x) = goodE x ∧ can (f x).scheme = can x.scheme := fun x hx => hf x (hp.mem_iff.1 hx)
 have hok : mkOk mod (l'.map f) = mkOk mod l := by
  unfold mkOk
  congr 1
  rw [Bool.eq_iff_iff, List.all_eq_true, List.all_eq_true]
  constructor
  · intro q x hx
    have := q (f x) (List.mem_map.2 ⟨x, hp.mem_iff.2 hx, rfl⟩)
    rwa [(hf x hx).2.1] at this
  · intro q y hy
    obtain ⟨x, hx, rfl⟩ := List.mem_map.1 hy; rw [(hf' x hx).2.1]
    exact q x (hp.mem_iff.1 hx)
 have hu : Uni (l'.map f) ↔ Uni l := (uni_map (fun x hx => (hf' x hx).1)).trans ⟨fun q => q.perm hp, fun q => q.perm hp.symm⟩
 rcases h with ⟨a1, rfl, rfl⟩ | ⟨a1, a2, rfl, rfl⟩ | ⟨a1, a2, rfl, m, hm, hs, rfl⟩
 · rcases h' with ⟨b1, rfl, rfl⟩ | ⟨b1, _⟩ | ⟨b1, _⟩
   · exact ⟨rfl, rfl⟩
   · rw [hok, a1] at b1; cases b1
   · rw [hok, a1] at b1; cases b1
 · rcases h' with ⟨b1, _⟩ | ⟨b1, b2, rfl, rfl⟩ | ⟨b1, b2, _⟩
   · rw [hok, a1] at b1; cases b1
   · exact ⟨rfl, rfl⟩
   · exact absurd (hu.1 b2) a2
 · rcases h' with ⟨b1, _⟩ | ⟨b1, b2, _⟩ | ⟨b1, b2, rfl, m', hm', hs', rfl⟩
   · rw [hok, a1] at b1; cases b1
   · exact absurd (hu.2 a2) b2
   · refine ⟨rfl, ?_⟩
     congr 1
     refine pw_ext (r := fun a b : Ent => slt a.name b.name = true) (fun a q => by rw [kBZ] at q; cases q) (fun a b c => kBR) _ _ (List.pairwise_map.2 hs) (List.pairwise_map.2 hs') (fun x => ?_)
     rw [List.mem_map, List.mem_map]
     constructor
     · rintro ⟨y, hy, rfl⟩
       have hy := hm.mem_iff.1 hy
       refine ⟨f y, hm'.mem_iff.2 (List.mem_map.2 ⟨y, hp.mem_iff.2 hy, rfl⟩), ?_⟩
       unfold canE
       rw [(hf y hy).1, (hf y hy).2.2]
     · rintro ⟨y, hy, rfl⟩
       obtain ⟨z, hz, rfl⟩ := List.mem_map.1 (hm'.mem_iff.1 hy); have hz := hp.mem_iff.1 hz
       refine ⟨z, hm.mem_iff.2 hz, ?_⟩
       unfold canE
       rw [(hf z hz).1, (hf z hz).2.2]
def entAt (l : List Ent) (i : Nat) : Bool := kA0 (l.getD i default).name && (kAJ (l.getD i default).scheme && (i == 0 || slt (l.getD (i - 1) default).name (l.getD i default).name))
def kAS (i : Ifc) : Bool := (List.range i.entries.length).all (entAt i.entries) && (kA0 i.module_ && decide (i.entries.length ≤ 60))
def Bx (w : World) (g : Nat) (E : TypeId) (cs : List Value) : Prop := w.heap[g]? = some (.cells cs.toArray E (0, 0))
theorem Bx.cell {w : World} {g : Nat} {E : TypeId} {cs : List Value} (h : Bx w g E cs) (j : Nat) (u : Value) (hu : cs[j]? = some u) : w.cell? ⟨g, j, none⟩ = some u := kA4 E h j u hu
theorem Bx.fz {w : World} {g : Nat} {E : TypeId} {cs : List Value} (h : Bx w g E cs) (j : Nat) : w.frozen? ⟨g, j, none⟩ = false := by
 unfold World.frozen?
 rw [show w.heap[g]? = _ from h]
 simp
theorem Bx.lt {w : World} {g : Nat} {E : TypeId} {cs : List Value} (h : Bx w g E cs) : g < w.heap.size := by
 rcases Nat.lt_or_ge g w.heap.size with q | q
 · exact q
 · unfold Bx at h; rw [Array.getElem?_eq_none q] at h; cases h
theorem Bx.fresh (w : World) (E : TypeId) (cs : List Value) : Bx (w.alloc (.cells cs.toArray E)) w.heap.size E cs := by
 show (w.heap.push _)[w.heap.size]? = _
 simp
theorem Bx.alloc {w : World} {g : Nat} {E : TypeId} {cs : List Value} (h : Bx w g E cs) (o : Obj) : Bx (w.alloc o) g E cs := by
 have := h.lt
 show (w.heap.push o)[g]? = _
 rw [Array.getElem?_push, if_neg (by omega)]
 exact h
theorem Bx.drew {w : World} {g : Nat} {E : TypeId} {cs : List Value} (h : Bx w g E cs) : Bx w.drew g E cs := h
theorem Bx.below {w w' : World} {g B : Nat} {E : TypeId} {cs : List Value} (h : Bx w g E cs) (hb : Below B w w') (hg : g < B) : Bx w' g E cs := (hb.block g hg).trans h
theorem Bx.kp {w w' : World} {v v' : Value} {g : Nat} {E : TypeId} {cs : List Value} (h : Bx w g E cs) (hk : Kp v v' w w') (hne : v.ownBlock ≠ some g) : Bx w' g E cs := (hk.block g h.lt hne).trans h
theorem Bx.set {w : World} {g : Nat} {E : TypeId} {cs : List Value} (h : Bx w g E cs) (j : Nat) (u : Value) : Bx (w.setCell ⟨g, j, none⟩ u) g E (cs.set j u) := by
 have hl := h.lt
 unfold Bx World.setCell at *
 show (w.heap.modify g _)[g]? = _
 rw [Array.getElem?_modify, if_pos rfl, h]
 simp
theorem kAA {w : World} {g : Nat} {a : Addr} {u : Value} (hne : a.block ≠ g) : (w.setCell a u).heap[g]? = w.heap[g]? := by
 unfold World.setCell
 show (w.heap.modify a.block _)[g]? = _
 rw [Array.getElem?_modify, if_neg hne]
theorem Bx.other {w : World} {g : Nat} {E : TypeId} {cs : List Value} (h : Bx w g E cs) {a : Addr} {u : Value} (hne : a.block ≠ g) : Bx (w.setCell a u) g E cs := (kAA hne).trans h
theorem Own.set {α : Type} {R : Rep α} {E : TypeId} {S : Blk} {w : World} {base : Nat} {v : Value} {l : List α} (h : Own R E S w base v l) {a : Addr} (u : Value) (hS : ∀ k, S k → k ≠ a.block) (hb : a.block < base) : Own R E S (w.setCell a u) base v l :=
 h.frame (fun k hk q => kAA (fun e => by
  rcases q with q | q
  · exact hS k q e.symm
  · have := h.base_le k q; omega)) (by simp)
theorem Own.ne {α : Type} {R : Rep α} {E : TypeId} {S : Blk} {w : World} {base : Nat} {v : Value} {l : List α} (h : Own R E S w base v l) {g : Nat} (hg : g < base) : v.ownBlock ≠ some g := fun e => by have := h.base_le g e; omega
theorem Own.shape {α : Type} {R : Rep α} {E : TypeId} {S : Blk} {w : World} {base : Nat} {v : Value} {l : List α} (h : Own R E S w base v l) : ∃ a m c, v = .slice a m c := by
 obtain ⟨a, c, rfl, _⟩ := h.sl
 exact ⟨a, _, c, rfl⟩
theorem Own.open_ {α : Type} {R : Rep α} {E : TypeId} {S : Blk} {w : World} {base : Nat} {v : Value} {l : List α} (h : Own R E S w base v l) (hl : 0 < l.length) : ∃ g c, v = .slice (some ⟨g, 0, none⟩) l.length c ∧ base ≤ g ∧ g < w.heap.size ∧ Sl R (fun k => S k ∨ base ≤ k) w (some ⟨g, 0, none⟩) l.length c l ∧ ∀ j, w.frozen? ⟨g, j, none⟩ = false := by
 obtain ⟨a, c, rfl, hs⟩ := h.sl; obtain ⟨css, hcl, hrow, hel⟩ := h.row
 obtain ⟨_, ⟨hv, h0⟩ | ⟨g, cap, cur, hv, hg, hh, _⟩⟩ := hrow
 · omega
 · rw [Value.slice.injEq] at hv
   obtain ⟨rfl, -, rfl⟩ := hv
   refine ⟨g, c, rfl, hg, ?_, hs, fun j => ?_⟩
   · rcases Nat.lt_or_ge g w.heap.size with q | q
     · exact q
     · rw [Array.getElem?_eq_none q] at hh; cases hh
   · unfold World.frozen?
     rw [hh]
     simp
theorem kC1 : ElemOf Tryz.prog 63 62 kBP.size 24 := ⟨by kernel_rfl, by kernel_rfl⟩
end Go.Proofs.YtjongcdlginjlaaGreatDoor
