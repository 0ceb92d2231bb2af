/- The claim's texts, part 5: contracts of the functions that the statement reaches, and what they say of the data. -/
import Derived.Test.YtjongcdlginjlaaGreatDoorPm4
set_option maxRecDepth 100000
set_option maxHeartbeats 8000000
set_option linter.all false
namespace Go.Proofs.YtjongcdlginjlaaGreatDoor
open Go.Proofs.Tryz
open Go.RowKit
def prun (s : Str) (c : Int) (l : List Coef) (k : Nat) : Bool × List Coef := (l.take k).foldl (kBC s c) (false, [])
theorem prun_next {s : Str} {c : Int} {l : List Coef} {k : Nat} (h : k < l.length) : prun s c l (k + 1) = kBC s c (prun s c l k) (l.getD k default) := by
 unfold prun
 rw [kAU h, List.foldl_append]; rfl
theorem pstep_len (s : Str) (c : Int) (p : Bool × List Coef) (t : Coef) : (kBC s c p t).2.length ≤ p.2.length + 2 := by
 unfold kBC
 split <;> split <;> simp
theorem prun_len (s : Str) (c : Int) (l : List Coef) : ∀ k, k ≤ l.length → (prun s c l k).2.length ≤ k * 2
 | 0, _ => by simp [prun]
 | k + 1, h => by
   have h1 := prun_len s c l k (by omega)
   have h2 := pstep_len s c (prun s c l k) (l.getD k default)
   rw [prun_next (by omega)]
   omega
theorem pstep_old {s : Str} {c : Int} {acc : List Coef} {t : Coef} (put : Bool) (h1 : (!put && slt s t.v) = false) (h2 : seq t.v s = false) : kBC s c (put, acc) t = (put, acc ++ [t]) := by
 unfold kBC
 simp only [h1, h2]
 cases put <;> simp_all
theorem pstep_eq {s : Str} {c : Int} {acc : List Coef} {t : Coef} (put : Bool) (h1 : (!put && slt s t.v) = false) (h2 : seq t.v s = true) : kBC s c (put, acc) t = (true, acc ++ [⟨t.v, t.c + c⟩]) := by
 unfold kBC
 simp only [h1, h2]
 simp
theorem pstep_new {s : Str} {c : Int} {acc : List Coef} {t : Coef} (h1 : slt s t.v = true) : kBC s c (false, acc) t = (true, acc ++ [⟨s, c⟩] ++ [t]) := by
 unfold kBC
 rw [slt_ne' h1, h1]
 simp
def nzs (F : List Coef) (i : Nat) : List Coef := (F.take i).filter nzB
theorem nzs_len (F : List Coef) (i : Nat) : (nzs F i).length ≤ i := by
 unfold nzs
 have h1 := List.length_filter_le nzB (F.take i); have h2 := List.length_take_le i F
 omega
theorem nzs_next {F : List Coef} {i : Nat} (h : i < F.length) : nzs F (i + 1) = if (F.getD i default).c = 0 then nzs F i else nzs F i ++ [F.getD i default] := by
 unfold nzs
 rw [kAU h, List.filter_append]
 by_cases q : (F.getD i default).c = 0
 · rw [if_pos q, List.filter_cons_of_neg (by unfold nzB; rw [q]; decide)]; simp
 · rw [if_neg q, List.filter_cons_of_pos (show nzB (F.getD i default) = true from bne_iff_ne.2 q)]; simp
theorem Sl.setCoef {S : Blk} {w : World} {g n c : Nat} {M : List Coef} (h : Sl kBP S w (some ⟨g, 0, none⟩) n c M) (k : Nat) (hk : k < n) (y : Coef) :
 Sl kBP S ((w.setCell ⟨g, k * 2, none⟩ (.string y.v)).setCell ⟨g, k * 2 + 1, none⟩ (.int .i64 y.c)) (some ⟨g, 0, none⟩) n c (M.set k y) := by
 refine ⟨by rw [List.length_set]; exact h.len, h.cap, h.max, h.nil, fun i x hx => ?_⟩
 have hi : i < M.length := by
  rcases Nat.lt_or_ge i M.length with q | q
  · exact q
  · rw [List.getElem?_eq_none (by rw [List.length_set]; exact q)] at hx; cases hx
 obtain ⟨b0, off0, cs0, e0, hs0, hr0, hc0⟩ := h.at_ i _ (List.getElem?_eq_getElem hi)
 cases e0
 obtain rfl : cs0 = _ := hr0; obtain ⟨c0, c1⟩ := h.coef k hk; rw [Nat.zero_add] at c0 c1
 by_cases hik : i = k
 · subst hik
   rw [List.getElem?_set_self hi] at hx
   cases hx
   refine ⟨g, 0, [.string y.v, .int .i64 y.c], rfl, hs0, rfl, fun j u hu => ?_⟩
   match j, hu with
   | 0, hu =>
     simp at hu; subst hu
     rw [Nat.zero_add]
     show ((w.setCell _ _).setCell ⟨g, i * 2 + 1, none⟩ _).cell? ⟨g, i * 2 + 0, none⟩ = _
     rw [kC5 _ _ _ _ _ (by omega), Nat.add_zero]
     exact World.cell?_setCell_same' _ _ _ (by rw [c0]; rfl)
   | 1, hu =>
     simp at hu; subst hu
     rw [Nat.zero_add]
     show ((w.setCell _ _).setCell ⟨g, i * 2 + 1, none⟩ _).cell? ⟨g, i * 2 + 1, none⟩ = _
     exact World.cell?_setCell_same' _ _ _ (by rw [kC5 _ _ _ _ _ (by omega), c1]; rfl)
 · rw [List.getElem?_set_ne (fun e => hik e.symm), List.getElem?_eq_getElem hi] at hx
   cases hx
   refine ⟨g, 0, [.string (M[i]).v, .int .i64 (M[i]).c], rfl, hs0, rfl, fun j u hu => ?_⟩
   have := hc0 j u hu
   have hj : j < 2 := by
    rcases Nat.lt_or_ge j 2 with q | q
    · exact q
    · rw [List.getElem?_eq_none (by simpa using q)] at hu; cases hu
   rw [kC5 _ _ _ _ _ (by show k * 2 + 1 ≠ 0 + (i * 2 + j); omega), kC5 _ _ _ _ _ (by show k * 2 ≠ 0 + (i * 2 + j); omega)]
   exact this
theorem pstep_grow (s : Str) (c : Int) (p : Bool × List Coef) (t : Coef) : p.2.length < (kBC s c p t).2.length := by
 unfold kBC
 split <;> split <;> simp <;> omega
theorem prun_grow (s : Str) (c : Int) : ∀ (l : List Coef) (p : Bool × List Coef), p.2.length ≤ (l.foldl (kBC s c) p).2.length
 | [], p => Nat.le_refl _
 | t :: l, p => Nat.le_trans (Nat.le_of_lt (pstep_grow s c p t)) (prun_grow s c l _)
theorem plusF_pos (l : List Coef) (s : Str) (c : Int) : 0 < (plusF l s c).length := by
 unfold plusF plusRun
 cases l with
 | nil => simp
 | cons t l =>
   have h1 := pstep_grow s c (false, []) t; have h2 := prun_grow s c l (kBC s c (false, []) t); rw [List.foldl_cons]
   split
   · omega
   · rw [List.length_append]; omega
theorem prun_full (s : Str) (c : Int) (l : List Coef) {k : Nat} (h : k = l.length) : plusF l s c = if (prun s c l k).1 then (prun s c l k).2 else (prun s c l k).2 ++ [⟨s, c⟩] := by
 unfold prun plusF plusRun
 rw [h, List.take_length]
theorem getD_drop {M F : List Coef} {i : Nat} (h : M.drop i = F.drop i) : M.getD i default = F.getD i default := by
 have h1 : (M.drop i)[0]? = (F.drop i)[0]? := by rw [h]
 rw [List.getElem?_drop, List.getElem?_drop, Nat.add_zero] at h1; rw [List.getD_eq_getElem?_getD, List.getD_eq_getElem?_getD, h1]
theorem kGX {M F : List Coef} {i : Nat} (h : M.drop i = F.drop i) : M.drop (i + 1) = F.drop (i + 1) := by
 rw [← List.drop_drop, ← List.drop_drop, h]
theorem take_put {M N : List Coef} {k : Nat} (hk : k < M.length) (h : M.take k = N) (y : Coef) : (M.set k y).take (k + 1) = N ++ [y] := by
 rw [List.take_add_one, List.take_set_of_le (Nat.le_refl _), h, List.getElem?_set_self hk]; rfl
theorem ref04_Plus {S : Blk} {x : Lin} {cs : List Value} {w : World} (h : RLin.rd S w cs x) (s : Str) (c : Int) (hn : x.terms.length ≤ 10000) (hb : ∀ t ∈ x.terms, -9223372036854775808 ≤ t.c + c ∧ t.c + c ≤ 9223372036854775807) :
 Calls Tryz.prog 166 #[.agg cs.toArray, .string s, .int .i64 c] w fun e w' => (∃ ds, e = .returned (.agg ds.toArray) ∧ RLin.rd (fun k => w.heap.size ≤ k) w' ds ⟨x.const, plus x.terms s c⟩) ∧ Below w.heap.size w w' := by
 obtain ⟨t, rfl, a, cp, rfl, hs⟩ := h; have HBd := hJ hb
 have hL : x.terms.length = x.terms.length := rfl
 generalize hL2 : x.terms.length = n at *
 have HL := hJ hL2; clear hL hL2 hb; obtain ⟨B0, ya, yb, yc, hW0⟩ := box3 w 65 [.int .i64 x.const, .slice a n cp] 65 [.int .i64 0, .slice none 0 0] 65 [.int .i64 x.const, .slice none 0 0]; have xa0 := box0 ya 0 _ rfl; have xa1 := box0 ya 1 _ rfl; have xb0 := box0 yb 0 _ rfl; have xb1 := box0 yb 1 _ rfl; have xc0 := box0 yc 0 _ rfl; have xc1 := box0 yc 1 _ rfl
 have bka : Bx _ _ _ _ := ya; have bkb : Bx _ _ _ _ := yb; have bkc : Bx _ _ _ _ := yc
 clear ya yb yc; have HS := hJ hs; have hm := hs.small; clear hs xb0 xb1 xc0 xc1; have HB6 := hJ bkb; have HB7 := hJ bkc; clear bka bkb bkc
 go_enter func166, ntmps166
 go_wp2_with fail
 generalize (((w.alloc (.cells #[.int .i64 x.const, .slice a n cp] 65)).alloc (.cells #[.int .i64 0, .slice none 0 0] 65)).alloc (.cells #[.int .i64 x.const, .slice none 0 0] 65)) = W at *
 go_loopw [8, 9] (fun p i wr => ∃ k : Nat, k ≤ n ∧ i = .int .i64 k ∧ p = .bool (prun s c x.terms k).1 ∧ Hid (∃ v, Bx wr (w.heap.size + 1 + 1) 65 [.int .i64 x.const, v] ∧ Own kBP 62 (fun _ => False) wr (w.heap.size + 3) v (prun s c x.terms k).2) ∧ Hid (Below (w.heap.size + 1 + 1) W wr)) (fun _ i _ => n - (intOf i).toNat)
 case atStart => exact ⟨0, Nat.zero_le _, rfl, rfl, hJ ⟨_, HB7.out, Own.nil _ _ _ _ _⟩, hJ (Below.refl _ _)⟩
 case round =>
  obtain ⟨k, hk, rfl, rfl, HO, HB⟩ := hrel; obtain ⟨v, hbx, hown⟩ := HO.out; have HBX := hJ hbx; have HOwn := hJ hown; clear HO hbx hown
  have HLn := hJ (prun_len s c x.terms k (by rw [HL.out]; exact hk))
  have y1 : wr.cell? ⟨w.heap.size, 1, none⟩ = some (.slice a n cp) := by rw [HB.out.cell (by simp <;> omega)]; exact xa1
  have hws : w.heap.size + 3 ≤ wr.heap.size := by have := HB.out.size; omega
  have hlt0 : w.heap.size < wr.heap.size := by omega
  have hlt2 : w.heap.size + 1 + 1 < wr.heap.size := by omega
  have z1 := HBX.out.cell 1 _ rfl; have f1 := HBX.out.fz 1
  by_cases hlt : k < n
  · obtain ⟨b, off, rfl, hbW, _⟩ := HS.out.form k hlt
    obtain ⟨c0, c1⟩ := (HS.out.below (B0.out.trans (HB.out.mono (by omega)))).coef k hlt
    have HKl : Hid (k < x.terms.length) := hJ (by rw [HL.out]; exact hlt)
    have HNext := hJ (prun_next (s := s) (c := c) HKl.out); obtain ⟨hb1, hb2⟩ := HBd.out _ (kAI HKl.out)
    generalize x.terms.getD k default = t at *
    generalize prun s c x.terms k = p at *
    obtain ⟨put, acc⟩ := p
    simp only at HOwn HLn
    have hln : acc.length ≤ k * 2 := HLn.out
    cases put with
    | false =>
      by_cases hl : Op.bytesLess s.toList t.v.toList = true
      · have he : (t.v.toList == s.toList) = false := slt_ne' hl
        have hl2 : Op.bytesLess t.v.toList s.toList = false := kE8 hl
        have HStep := hJ (pstep_new (c := c) (acc := acc) hl); have tok1 := True.intro
        go_wp2_with (first
         | (have _t := tok1
            at_builtin
            refine kA8 kC1 rfl _ _ rfl (w.heap.size + 3) _ _ rfl ((HOwn.out.alloc _).alloc _) _ ⟨s, c⟩ [.string s, .int .i64 c] rfl rfl (kA4 62 (by (simp only [kAG, kAE, Array.getElem?_push, Array.size_push]; simp))) (by omega) (by unfold maxLen; omega) (by simp; omega) ?_
            intro v9 w9 hown9 hb9 hk9
            obtain ⟨a9, m9, c9, rfl⟩ := hown9.shape
            have HX9 := hJ (((HBX.out.alloc _).alloc _).kp hk9 (HOwn.out.ne (by omega)))
            have z9 := HX9.out.cell 1 _ rfl; have f9 := HX9.out.fz 1
            have HT9 := hJ ((((Bx.fresh wr 62 [.string t.v, .int .i64 t.c]).alloc _).kp hk9 (fun e => absurd (HOwn.out.block e).2 (by omega))).other (a := ⟨w.heap.size + 1 + 1, 1, none⟩) (u := .slice a9 m9 c9) (by show w.heap.size + 1 + 1 ≠ _; omega))
            have HX10 := hJ (HX9.out.set 1 (.slice a9 m9 c9))
            have HOwn9 := hJ (hown9.set (a := ⟨w.heap.size + 1 + 1, 1, none⟩) (.slice a9 m9 c9) (fun _ q => q.elim) (by show w.heap.size + 1 + 1 < _; omega))
            have z10 := HX10.out.cell 1 _ rfl; have t0 := HT9.out.cell 0 _ rfl; have t1 := HT9.out.cell 1 _ rfl
            have HB10 : Hid (Below (w.heap.size + 1 + 1) W (w9.setCell ⟨w.heap.size + 1 + 1, 1, none⟩ (.slice a9 m9 c9))) := hJ ((((HB.out.alloc (by omega) _).alloc (by simp; omega) _).trans (hb9.mono (by omega))).setCell (by show _ ≤ w.heap.size + 1 + 1; omega) _)
            clear tok1 hown9 hb9 hk9)
         | (at_builtin
            refine kA8 kC1 rfl _ _ rfl (w.heap.size + 3) _ _ rfl (HOwn9.out.alloc _) _ t [.string t.v, .int .i64 t.c] rfl rfl (kA4 62 (by (simp only [kAG, kAE, Array.getElem?_push, Array.size_push]; simp))) (by rw [List.length_append]; show (acc.length + 1 + 1) * 24 ≤ _; omega) (by unfold maxLen; rw [List.length_append]; show acc.length + 1 + 1 ≤ _; omega) (by have := HB10.out.size; show _ ≤ Array.size _; simp at *; omega) ?_
            intro v11 w11 hown11 hb11 hk11
            obtain ⟨a11, m11, c11, rfl⟩ := hown11.shape
            have HX11 := hJ ((HX10.out.alloc _).kp hk11 (HOwn9.out.ne (by omega)))
            have z11 := HX11.out.cell 1 _ rfl
            have f11 := HX11.out.fz 1))
        go_roundw
        case rel => exact ⟨k + 1, by omega, by go_num, by rw [HNext.out, HStep.out], hJ ⟨_, HX11.out.set 1 _, by rw [HNext.out, HStep.out]; exact hown11.set _ (fun _ q => q.elim) (by show w.heap.size + 1 + 1 < _; omega)⟩, hJ (((HB10.out.alloc (by have := HB10.out.size; omega) _).trans (hb11.mono (by omega))).setCell (by show _ ≤ w.heap.size + 1 + 1; omega) _)⟩
        case measure => simp [intOf]; omega
      · have hl : Op.bytesLess s.toList t.v.toList = false := by simpa using hl
        by_cases he : (t.v.toList == s.toList) = true
        · have hl2 : Op.bytesLess t.v.toList s.toList = false := by rw [show t.v = s from (kA7 _ _).1 he]; exact bl_irrefl _
          have HStep := hJ (pstep_eq (s := s) (c := c) (acc := acc) (t := t) false (show (!false && slt s t.v) = false from by rw [show slt s t.v = false from hl]; rfl) he)
          go_wp2_with (at_builtin; refine kA8 kC1 rfl _ _ rfl (w.heap.size + 3) _ _ rfl ((HOwn.out.alloc _).alloc _) _ ⟨t.v, t.c + c⟩ [.string t.v, .int .i64 (t.c + c)] rfl rfl (kA4 62 (by (simp only [kAG, kAE, Array.getElem?_push, Array.size_push]; simp))) (by omega) (by unfold maxLen; omega) (by simp; omega) ?_; intro v9 w9 hown9 hb9 hk9; obtain ⟨a9, m9, c9, rfl⟩ := hown9.shape; have HX9 := hJ (((HBX.out.alloc _).alloc _).kp hk9 (HOwn.out.ne (by omega))); have z9 := HX9.out.cell 1 _ rfl; have f9 := HX9.out.fz 1)
          go_roundw
          case rel => exact ⟨k + 1, by omega, by go_num, by rw [HNext.out, HStep.out], hJ ⟨_, HX9.out.set 1 _, by rw [HNext.out, HStep.out]; exact hown9.set _ (fun _ q => q.elim) (by show w.heap.size + 1 + 1 < _; omega)⟩, hJ ((((HB.out.alloc (by omega) _).alloc (by simp; omega) _).trans (hb9.mono (by omega))).setCell (by show _ ≤ w.heap.size + 1 + 1; omega) _)⟩
          case measure => simp [intOf]; omega
        · have he : (t.v.toList == s.toList) = false := by simpa using he
          have hl2 : Op.bytesLess t.v.toList s.toList = true := by
           cases q : Op.bytesLess t.v.toList s.toList with
           | true => rfl
           | false => exact absurd ((kA7 _ _).2 (kCO q hl)) (by rw [show seq t.v s = false from he]; decide)
          have HStep := hJ (pstep_old (s := s) (c := c) (acc := acc) (t := t) false (show (!false && slt s t.v) = false from by rw [show slt s t.v = false from hl]; rfl) he)
          go_wp2_with (at_builtin; refine kA8 kC1 rfl _ _ rfl (w.heap.size + 3) _ _ rfl ((HOwn.out.alloc _).alloc _) _ t [.string t.v, .int .i64 t.c] rfl rfl (kA4 62 (by (simp only [kAG, kAE, Array.getElem?_push, Array.size_push]; simp))) (by omega) (by unfold maxLen; omega) (by simp; omega) ?_; intro v9 w9 hown9 hb9 hk9; obtain ⟨a9, m9, c9, rfl⟩ := hown9.shape; have HX9 := hJ (((HBX.out.alloc _).alloc _).kp hk9 (HOwn.out.ne (by omega))); have z9 := HX9.out.cell 1 _ rfl; have f9 := HX9.out.fz 1)
          go_roundw
          case rel => exact ⟨k + 1, by omega, by go_num, by rw [HNext.out, HStep.out], hJ ⟨_, HX9.out.set 1 _, by rw [HNext.out, HStep.out]; exact hown9.set _ (fun _ q => q.elim) (by show w.heap.size + 1 + 1 < _; omega)⟩, hJ ((((HB.out.alloc (by omega) _).alloc (by simp; omega) _).trans (hb9.mono (by omega))).setCell (by show _ ≤ w.heap.size + 1 + 1; omega) _)⟩
          case measure => simp [intOf]; omega
    | true =>
      by_cases he : (t.v.toList == s.toList) = true
      · have HStep := hJ (pstep_eq (s := s) (c := c) (acc := acc) (t := t) true rfl he)
        go_wp2_with (at_builtin; refine kA8 kC1 rfl _ _ rfl (w.heap.size + 3) _ _ rfl ((HOwn.out.alloc _).alloc _) _ ⟨t.v, t.c + c⟩ [.string t.v, .int .i64 (t.c + c)] rfl rfl (kA4 62 (by (simp only [kAG, kAE, Array.getElem?_push, Array.size_push]; simp))) (by omega) (by unfold maxLen; omega) (by simp; omega) ?_; intro v9 w9 hown9 hb9 hk9; obtain ⟨a9, m9, c9, rfl⟩ := hown9.shape; have HX9 := hJ (((HBX.out.alloc _).alloc _).kp hk9 (HOwn.out.ne (by omega))); have z9 := HX9.out.cell 1 _ rfl; have f9 := HX9.out.fz 1)
        go_roundw
        case rel => exact ⟨k + 1, by omega, by go_num, by rw [HNext.out, HStep.out], hJ ⟨_, HX9.out.set 1 _, by rw [HNext.out, HStep.out]; exact hown9.set _ (fun _ q => q.elim) (by show w.heap.size + 1 + 1 < _; omega)⟩, hJ ((((HB.out.alloc (by omega) _).alloc (by simp; omega) _).trans (hb9.mono (by omega))).setCell (by show _ ≤ w.heap.size + 1 + 1; omega) _)⟩
        case measure => simp [intOf]; omega
      · have he : (t.v.toList == s.toList) = false := by simpa using he
        have HStep := hJ (pstep_old (s := s) (c := c) (acc := acc) (t := t) true rfl he)
        go_wp2_with (at_builtin; refine kA8 kC1 rfl _ _ rfl (w.heap.size + 3) _ _ rfl ((HOwn.out.alloc _).alloc _) _ t [.string t.v, .int .i64 t.c] rfl rfl (kA4 62 (by (simp only [kAG, kAE, Array.getElem?_push, Array.size_push]; simp))) (by omega) (by unfold maxLen; omega) (by simp; omega) ?_; intro v9 w9 hown9 hb9 hk9; obtain ⟨a9, m9, c9, rfl⟩ := hown9.shape; have HX9 := hJ (((HBX.out.alloc _).alloc _).kp hk9 (HOwn.out.ne (by omega))); have z9 := HX9.out.cell 1 _ rfl; have f9 := HX9.out.fz 1)
        go_roundw
        case rel => exact ⟨k + 1, by omega, by go_num, by rw [HNext.out, HStep.out], hJ ⟨_, HX9.out.set 1 _, by rw [HNext.out, HStep.out]; exact hown9.set _ (fun _ q => q.elim) (by show w.heap.size + 1 + 1 < _; omega)⟩, hJ ((((HB.out.alloc (by omega) _).alloc (by simp; omega) _).trans (hb9.mono (by omega))).setCell (by show _ ≤ w.heap.size + 1 + 1; omega) _)⟩
        case measure => simp [intOf]; omega
  · obtain rfl : k = n := by omega
    have HFull := hJ (prun_full s c x.terms (k := k) HL.out.symm); have HPos := hJ (plusF_pos x.terms s c)
    have HPl : Hid (plus x.terms s c = (plusF x.terms s c).filter nzB) := hJ rfl
    generalize plusF x.terms s c = F at *
    generalize prun s c x.terms k = p at *
    obtain ⟨put, acc⟩ := p
    simp only at HOwn HLn HFull
    have hln : acc.length ≤ k * 2 := HLn.out
    cases put with
    | false =>
      go_wp2_with (at_builtin; refine kA8 kC1 rfl _ _ rfl (w.heap.size + 3) _ _ rfl (HOwn.out.alloc _) _ ⟨s, c⟩ [.string s, .int .i64 c] rfl rfl (kA4 62 (by (simp only [kAG, kAE, Array.getElem?_push, Array.size_push]; simp))) (by omega) (by unfold maxLen; omega) (by simp; omega) ?_; intro v9 w9 hown9 hb9 hk9; obtain ⟨a9, m9, c9, rfl⟩ := hown9.shape; have HX9 := hJ ((HBX.out.alloc _).kp hk9 (HOwn.out.ne (by omega))); have z9 := HX9.out.cell 1 _ rfl; have f9 := HX9.out.fz 1)
      have HF : F = acc ++ [⟨s, c⟩] := HFull.out
      have HOF : Hid (Own kBP 62 (fun _ => False) (w9.setCell ⟨w.heap.size + 1 + 1, 1, none⟩ (.slice a9 m9 c9)) (w.heap.size + 3) (.slice a9 m9 c9) F) := hJ (by rw [HF]; exact hown9.set _ (fun _ q => q.elim) (by show w.heap.size + 1 + 1 < _; omega))
      have HX2 := hJ (HX9.out.set 1 (.slice a9 m9 c9))
      have HB2 : Hid (Below (w.heap.size + 1 + 1) W (w9.setCell ⟨w.heap.size + 1 + 1, 1, none⟩ (.slice a9 m9 c9))) := hJ (((HB.out.alloc (by omega) _).trans (hb9.mono (by omega))).setCell (by show _ ≤ w.heap.size + 1 + 1; omega) _)
      clear hown9 hb9 hk9 HX9 HF z1 f1; clear z9 f9
      generalize Value.slice a9 m9 c9 = vF at *
      generalize (w9.setCell ⟨w.heap.size + 1 + 1, 1, none⟩ vF) = W2 at *
      obtain ⟨gF, cF, rfl, hgF, hlF, hslF, hfF⟩ := HOF.out.open_ HPos.out
      have HS0 := hJ (hslF.mono (S' := fun k => w.heap.size + 3 ≤ k) (fun k q _ => by rcases q with q | q; exact q.elim; omega))
      have HFz := hJ hfF; have hFs := hslF.small; have hcF := hslF.cap; clear hslF hfF HOF HOwn HLn HFull; have HPosL := hJ HPos.out
      have hF0 : F.length = F.length := rfl
      generalize hFL : F.length = m at *
      have HFL := hJ hFL; clear hFL hF0
      go_wp2_with fail
      go_loopw [11, 12] (fun kk i wr => ∃ i' : Nat, i' ≤ m ∧ i = .int .i64 i' ∧ kk = .int .i64 (nzs F i').length ∧ Hid (Bx wr (w.heap.size + 1 + 1) 65 [.int .i64 x.const, .slice (some ⟨gF, 0, none⟩) m cF]) ∧ Hid (∃ M, Sl kBP (fun k => w.heap.size + 3 ≤ k) wr (some ⟨gF, 0, none⟩) m cF M ∧ M.take (nzs F i').length = nzs F i' ∧ M.drop i' = F.drop i') ∧ Hid (∀ j, wr.frozen? ⟨gF, j, none⟩ = false) ∧ Hid (Below (w.heap.size + 1 + 1) W wr)) (fun _ i _ => m - (intOf i).toNat)
      case atStart => exact ⟨0, Nat.zero_le _, rfl, rfl, HX2, hJ ⟨F, HS0.out, rfl, rfl⟩, HFz, HB2⟩
      case round =>
       obtain ⟨i', hi', rfl, rfl, HX3, HM, HFz3, HB3⟩ := hrel; obtain ⟨M, hM1, hM2, hM3⟩ := HM.out; have HM1 := hJ hM1; have HM2 := hJ hM2; have HM3 := hJ hM3; clear HM hM1 hM2 hM3; have q1 := HX3.out.cell 1 _ rfl; have hle := nzs_len F i'
       have hws3 : w.heap.size + 3 ≤ wr.heap.size := by have := HB3.out.size; omega
       by_cases hli : i' < m
       · obtain ⟨e0, e1⟩ := HM1.out.coef i' hli
         rw [Nat.zero_add] at e0 e1
         have HKF : Hid (i' < F.length) := hJ (by rw [HFL.out]; exact hli)
         have HGet := hJ (getD_drop HM3.out); rw [HGet.out] at e0 e1; have HNz := hJ (nzs_next HKF.out)
         generalize F.getD i' default = y at *
         generalize hkk : (nzs F i').length = kk at *
         have HKK := hJ hkk; clear hkk
         by_cases hz : y.c = 0
         · have hz2 : (y.c != 0) = false := by rw [hz]; rfl
           have HN : Hid (nzs F (i' + 1) = nzs F i') := hJ (by rw [HNz.out, if_pos hz])
           clear hz
           go_wp2_with fail
           go_roundw
           case rel => exact ⟨i' + 1, by omega, by go_num, by rw [HN.out, HKK.out], HX3, hJ ⟨M, HM1.out, by rw [HN.out, HKK.out]; exact HM2.out, kGX HM3.out⟩, HFz3, HB3⟩
           case measure => simp [intOf]; omega
         · have hz2 : (y.c != 0) = true := bne_iff_ne.2 hz
           have HN : Hid (nzs F (i' + 1) = nzs F i' ++ [y]) := hJ (by rw [HNz.out, if_neg hz])
           have hkm : kk < m := by omega
           clear hz
           have q1d : wr.cell? ⟨w.heap.size + 1 + 1, 1, none⟩ = some (.slice (some ⟨gF, 0, none⟩) m cF) := q1
           have e0d : wr.cell? ⟨gF, i' * 2, none⟩ = some (.string y.v) := e0
           have e1d : wr.cell? ⟨gF, i' * 2 + 1, none⟩ = some (.int .i64 y.c) := e1
           obtain ⟨d0, d1⟩ := HM1.out.coef kk hkm; rw [Nat.zero_add] at d0 d1
           have g0 : wr.frozen? ⟨gF, kk * 2, none⟩ = false := HFz3.out _
           have g1 : wr.frozen? ⟨gF, kk * 2 + 1, none⟩ = false := HFz3.out _
           go_wp2_with fail
           go_region
           all_goals go_wp2_with fail
           all_goals go_roundw
           case rel => exact ⟨i' + 1, by omega, by go_num, by rw [HN.out, List.length_append, HKK.out]; rfl, hJ ((HX3.out.drew.other (by show gF ≠ _; omega)).other (by show gF ≠ _; omega)), hJ ⟨M.set kk y, (HM1.out.below (Below.refl _ _).drew).setCoef kk hkm y, by rw [HN.out, List.length_append, HKK.out]; exact take_put (by rw [HM1.out.len]; exact hkm) HM2.out y, by rw [List.drop_set_of_lt (by omega)]; exact kGX HM3.out⟩, hJ (fun j => by show ((wr.setCell ⟨gF, kk * 2, none⟩ (.string y.v)).setCell ⟨gF, kk * 2 + 1, none⟩ (.int .i64 y.c)).frozen? ⟨gF, j, none⟩ = false; rw [World.frozen?_setCell, World.frozen?_setCell]; exact HFz3.out j), hJ ((HB3.out.drew.setCell (by show _ ≤ gF; omega) _).setCell (by show _ ≤ gF; omega) _)⟩
           case measure => simp [intOf]; omega
       · obtain rfl : i' = m := by omega
         have HEnd : Hid (nzs F i' = plus x.terms s c) := hJ (by rw [HPl.out]; unfold nzs; rw [List.take_of_length_le (by rw [HFL.out]; exact Nat.le_refl _)])
         generalize hkk : (nzs F i').length = kk at *
         have HKK := hJ hkk; clear hkk; have f7 := HX3.out.fz 1; have HX4 := hJ (HX3.out.set 1 (.slice (some ⟨gF, 0, none⟩) kk cF)); have p0 := HX4.out.cell 0 _ rfl; have p1 := HX4.out.cell 1 _ rfl
         have HX6 := hJ ((HB6.out.below HB3.out (by omega)).other (a := ⟨w.heap.size + 1 + 1, 1, none⟩) (u := .slice (some ⟨gF, 0, none⟩) kk cF) (by show w.heap.size + 1 + 1 ≠ _; omega))
         have f60 := HX6.out.fz 0; have f61 := HX6.out.fz 1; have r0 := HX6.out.cell 0 _ rfl; have r1 := HX6.out.cell 1 _ rfl; have HX60 := hJ ((HX6.out.set 0 (.int .i64 x.const)).set 1 (.slice (some ⟨gF, 0, none⟩) kk cF)); have s0 := HX60.out.cell 0 _ rfl; have s1 := HX60.out.cell 1 _ rfl
         go_wp2_with fail
         refine bodyPost_ret (v := .agg #[.int .i64 x.const, .slice (some ⟨gF, 0, none⟩) kk cF]) (by simp [results, results166, go_sem, s0, s1]) rfl ?_
         refine ⟨⟨[.int .i64 x.const, .slice (some ⟨gF, 0, none⟩) kk cF], rfl, ⟨_, rfl, some ⟨gF, 0, none⟩, cF, by rw [← HKK.out, HEnd.out], ?_⟩⟩, ?_⟩
         · have h1 := HM1.out.take kk (by omega)
           rw [HM2.out, HEnd.out] at h1
           have h2 : (plus x.terms s c).length = kk := by rw [← HEnd.out]; exact HKK.out
           show Sl kBP _ _ _ (plus x.terms s c).length _ (plus x.terms s c)
           rw [h2]
           refine (h1.frame (fun k hk _ => ?_)).mono (fun k hk _ => by omega)
           rw [kAA (by show w.heap.size + 1 ≠ k; omega), kAA (by show w.heap.size + 1 ≠ k; omega), kAA (by show w.heap.size + 1 + 1 ≠ k; omega)]
         · exact B0.out.trans ((((HB3.out.mono (by omega)).setCell (by show _ ≤ w.heap.size + 1 + 1; omega) _).setCell (by show _ ≤ w.heap.size + 1; omega) _).setCell (by show _ ≤ w.heap.size + 1; omega) _)
    | true =>
      go_wp2_with fail
      have HF : F = acc := HFull.out
      have HOF : Hid (Own kBP 62 (fun _ => False) wr (w.heap.size + 3) v F) := hJ (by rw [HF]; exact HOwn.out)
      have HX2 := HBX; have HB2 := HB; clear HF; obtain ⟨gF, cF, rfl, hgF, hlF, hslF, hfF⟩ := HOF.out.open_ HPos.out
      have HS0 := hJ (hslF.mono (S' := fun k => w.heap.size + 3 ≤ k) (fun k q _ => by rcases q with q | q; exact q.elim; omega))
      have HFz := hJ hfF; have hFs := hslF.small; have hcF := hslF.cap; clear hslF hfF HOF HOwn HLn HFull; have HPosL := hJ HPos.out
      have hF0 : F.length = F.length := rfl
      generalize hFL : F.length = m at *
      have HFL := hJ hFL; clear hFL hF0
      go_wp2_with fail
      go_loopw [11, 12] (fun kk i wr => ∃ i' : Nat, i' ≤ m ∧ i = .int .i64 i' ∧ kk = .int .i64 (nzs F i').length ∧ Hid (Bx wr (w.heap.size + 1 + 1) 65 [.int .i64 x.const, .slice (some ⟨gF, 0, none⟩) m cF]) ∧ Hid (∃ M, Sl kBP (fun k => w.heap.size + 3 ≤ k) wr (some ⟨gF, 0, none⟩) m cF M ∧ M.take (nzs F i').length = nzs F i' ∧ M.drop i' = F.drop i') ∧ Hid (∀ j, wr.frozen? ⟨gF, j, none⟩ = false) ∧ Hid (Below (w.heap.size + 1 + 1) W wr)) (fun _ i _ => m - (intOf i).toNat)
      case atStart => exact ⟨0, Nat.zero_le _, rfl, rfl, HX2, hJ ⟨F, HS0.out, rfl, rfl⟩, HFz, HB2⟩
      case round =>
       obtain ⟨i', hi', rfl, rfl, HX3, HM, HFz3, HB3⟩ := hrel; obtain ⟨M, hM1, hM2, hM3⟩ := HM.out; have HM1 := hJ hM1; have HM2 := hJ hM2; have HM3 := hJ hM3; clear HM hM1 hM2 hM3; have q1 := HX3.out.cell 1 _ rfl; have hle := nzs_len F i'
       have hws3 : w.heap.size + 3 ≤ wr.heap.size := by have := HB3.out.size; omega
       by_cases hli : i' < m
       · obtain ⟨e0, e1⟩ := HM1.out.coef i' hli
         rw [Nat.zero_add] at e0 e1
         have HKF : Hid (i' < F.length) := hJ (by rw [HFL.out]; exact hli)
         have HGet := hJ (getD_drop HM3.out); rw [HGet.out] at e0 e1; have HNz := hJ (nzs_next HKF.out)
         generalize F.getD i' default = y at *
         generalize hkk : (nzs F i').length = kk at *
         have HKK := hJ hkk; clear hkk
         by_cases hz : y.c = 0
         · have hz2 : (y.c != 0) = false := by rw [hz]; rfl
           have HN : Hid (nzs F (i' + 1) = nzs F i') := hJ (by rw [HNz.out, if_pos hz])
           clear hz
           go_wp2_with fail
           go_roundw
           case rel => exact ⟨i' + 1, by omega, by go_num, by rw [HN.out, HKK.out], HX3, hJ ⟨M, HM1.out, by rw [HN.out, HKK.out]; exact HM2.out, kGX HM3.out⟩, HFz3, HB3⟩
           case measure => simp [intOf]; omega
         · have hz2 : (y.c != 0) = true := bne_iff_ne.2 hz
           have HN : Hid (nzs F (i' + 1) = nzs F i' ++ [y]) := hJ (by rw [HNz.out, if_neg hz])
           have hkm : kk < m := by omega
           clear hz
           have q1d : wr.cell? ⟨w.heap.size + 1 + 1, 1, none⟩ = some (.slice (some ⟨gF, 0, none⟩) m cF) := q1
           have e0d : wr.cell? ⟨gF, i' * 2, none⟩ = some (.string y.v) := e0
           have e1d : wr.cell? ⟨gF, i' * 2 + 1, none⟩ = some (.int .i64 y.c) := e1
           obtain ⟨d0, d1⟩ := HM1.out.coef kk hkm; rw [Nat.zero_add] at d0 d1
           have g0 : wr.frozen? ⟨gF, kk * 2, none⟩ = false := HFz3.out _
           have g1 : wr.frozen? ⟨gF, kk * 2 + 1, none⟩ = false := HFz3.out _
           go_wp2_with fail
           go_region
           all_goals go_wp2_with fail
           all_goals go_roundw
           case rel => exact ⟨i' + 1, by omega, by go_num, by rw [HN.out, List.length_append, HKK.out]; rfl, hJ ((HX3.out.drew.other (by show gF ≠ _; omega)).other (by show gF ≠ _; omega)), hJ ⟨M.set kk y, (HM1.out.below (Below.refl _ _).drew).setCoef kk hkm y, by rw [HN.out, List.length_append, HKK.out]; exact take_put (by rw [HM1.out.len]; exact hkm) HM2.out y, by rw [List.drop_set_of_lt (by omega)]; exact kGX HM3.out⟩, hJ (fun j => by show ((wr.setCell ⟨gF, kk * 2, none⟩ (.string y.v)).setCell ⟨gF, kk * 2 + 1, none⟩ (.int .i64 y.c)).frozen? ⟨gF, j, none⟩ = false; rw [World.frozen?_setCell, World.frozen?_setCell]; exact HFz3.out j), hJ ((HB3.out.drew.setCell (by show _ ≤ gF; omega) _).setCell (by show _ ≤ gF; omega) _)⟩
           case measure => simp [intOf]; omega
       · obtain rfl : i' = m := by omega
         have HEnd : Hid (nzs F i' = plus x.terms s c) := hJ (by rw [HPl.out]; unfold nzs; rw [List.take_of_length_le (by rw [HFL.out]; exact Nat.le_refl _)])
         generalize hkk : (nzs F i').length = kk at *
         have HKK := hJ hkk; clear hkk; have f7 := HX3.out.fz 1; have HX4 := hJ (HX3.out.set 1 (.slice (some ⟨gF, 0, none⟩) kk cF)); have p0 := HX4.out.cell 0 _ rfl; have p1 := HX4.out.cell 1 _ rfl
         have HX6 := hJ ((HB6.out.below HB3.out (by omega)).other (a := ⟨w.heap.size + 1 + 1, 1, none⟩) (u := .slice (some ⟨gF, 0, none⟩) kk cF) (by show w.heap.size + 1 + 1 ≠ _; omega))
         have f60 := HX6.out.fz 0; have f61 := HX6.out.fz 1; have r0 := HX6.out.cell 0 _ rfl; have r1 := HX6.out.cell 1 _ rfl; have HX60 := hJ ((HX6.out.set 0 (.int .i64 x.const)).set 1 (.slice (some ⟨gF, 0, none⟩) kk cF)); have s0 := HX60.out.cell 0 _ rfl; have s1 := HX60.out.cell 1 _ rfl
         go_wp2_with fail
         refine bodyPost_ret (v := .agg #[.int .i64 x.const, .slice (some ⟨gF, 0, none⟩) kk cF]) (by simp [results, results166, go_sem, s0, s1]) rfl ?_
         refine ⟨⟨[.int .i64 x.const, .slice (some ⟨gF, 0, none⟩) kk cF], rfl, ⟨_, rfl, some ⟨gF, 0, none⟩, cF, by rw [← HKK.out, HEnd.out], ?_⟩⟩, ?_⟩
         · have h1 := HM1.out.take kk (by omega)
           rw [HM2.out, HEnd.out] at h1
           have h2 : (plus x.terms s c).length = kk := by rw [← HEnd.out]; exact HKK.out
           show Sl kBP _ _ _ (plus x.terms s c).length _ (plus x.terms s c)
           rw [h2]
           refine (h1.frame (fun k hk _ => ?_)).mono (fun k hk _ => by omega)
           rw [kAA (by show w.heap.size + 1 ≠ k; omega), kAA (by show w.heap.size + 1 ≠ k; omega), kAA (by show w.heap.size + 1 + 1 ≠ k; omega)]
         · exact B0.out.trans ((((HB3.out.mono (by omega)).setCell (by show _ ≤ w.heap.size + 1 + 1; omega) _).setCell (by show _ ≤ w.heap.size + 1; omega) _).setCell (by show _ ≤ w.heap.size + 1; omega) _)
theorem binds_at {l : List Bnd} (h : kBG l = true) {k : Nat} (hk : k < l.length) : kCM (l.getD k default) = true ∧ kBA (l.take k) (l.getD k default).kind (l.getD k default).v < 0 := by
 have := (List.all_eq_true.1 h) k (List.mem_range.2 hk)
 unfold bndOk at this
 rw [Bool.and_eq_true] at this
 exact ⟨this.1, of_decide_eq_true this.2⟩
theorem kDC {S : Blk} (l : List Bnd) (a : Option Addr) (n c : Nat) (w : World) (h : Sl RBnd S w a n c l) (hv : kBG l = true) :
 Calls Tryz.prog 68 #[.slice a n c] w fun e w' => e = .returned (.bool true) ∧ Below w.heap.size w w' := by
 have H := hJ h; have HV := hJ hv; have hn := h.small; have hcap := h.cap; clear h hv
 go_enter func68, ntmps68
 go_wp2_with fail
 go_loopw [3] (fun i wr => ∃ k : Nat, k ≤ n ∧ i = .int .i64 k ∧ Below w.heap.size w wr) (fun i _ => n - (intOf i).toNat)
 case atStart => exact ⟨0, Nat.zero_le _, rfl, Below.refl _ _⟩
 case round =>
  obtain ⟨k, hk, rfl, hB⟩ := hrel
  by_cases hlt : k < n
  · obtain ⟨b, off, rfl, hbW, _⟩ := H.out.form k hlt
    have HR := hJ (H.out.below hB); obtain ⟨t, d, hr, hd, c0, c1, c2, c3, c4, c5, c6⟩ := HR.out.bnd k hlt
    have HX := hJ (binds_at HV.out (k := k) (by rw [H.out.len]; exact hlt))
    have HC1 := hJ (fun t : Later wr => ref11_validBind (RBnd.below hr t.b) HX.out.1)
    have HC2 := hJ (fun t : Later wr => kEA (l.take k) _ k c t.w ((HR.out.take k hk).below t.b) (l.getD k default).kind (l.getD k default).v)
    have hq : decide (0 ≤ kBA (l.take k) (l.getD k default).kind (l.getD k default).v) = false := decide_eq_false (by have := HX.out.2; omega)
    have c0 := Later.cell c0; have c1 := Later.cell c1; have c2 := Later.cell c2; have c3 := Later.cell c3; have c4 := Later.cell c4; have c5 := Later.cell c5; have c6 := Later.cell c6; clear hr hd
    generalize kBA (l.take k) (l.getD k default).kind (l.getD k default).v = q at *
    generalize l.getD k default = x at *
    go_wp2_with fail
    refine kAB (by kernel_rfl) (by kernel_rfl) ?_
    repeat (go_big_quiet_step (first | fail | exact Later.call (HC1.out _) | exact Later.same (HC2.out _)))
    refine wpQuiet_nil ?_
    rintro _ ⟨t9, rfl⟩
    go_wp2_with fail
    go_roundw
    case rel => exact ⟨k + 1, by omega, by go_num, hB.trans (t9.b.mono hB.size)⟩
    case measure => simp [intOf]; omega
  · go_wp2_with fail
    go_ret
    exact ⟨rfl, hB⟩
theorem kDB {S : Blk} (l : List Bnd) (a : Option Addr) (n c : Nat) (w : World) (h : Sl RBnd S w a n c l) (hv : kBG l = true) (E : Env w) :
 Calls Tryz.prog 104 #[.slice a n c] w fun e w' => e = .returned (.bool true) ∧ Below w.heap.size w w' := by
 have H := hJ h; have HV := hJ hv; have EE := hJ E; have hn := h.small; have hcap := h.cap; clear h hv E
 go_enter func104, ntmps104
 go_wp2_with fail
 go_loopw [7] (fun i wr => ∃ k : Nat, k ≤ n ∧ i = .int .i64 k ∧ Below w.heap.size w wr) (fun i _ => n - (intOf i).toNat)
 case atStart => exact ⟨0, Nat.zero_le _, rfl, Below.refl _ _⟩
 case round =>
  obtain ⟨k, hk, rfl, hB⟩ := hrel
  by_cases hlt : k < n
  · obtain ⟨b, off, rfl, hbW, _⟩ := H.out.form k hlt
    have HR := hJ (H.out.below hB); obtain ⟨t, d, hr, ⟨⟨ta, tc, rfl, htt⟩, ⟨da, dc, rfl, hdd⟩⟩, c0, c1, c2, c3, c4, c5, c6⟩ := HR.out.bnd k hlt
    have HX := hJ (binds_at HV.out (k := k) (by rw [H.out.len]; exact hlt))
    have hq : decide (0 ≤ kBA (l.take k) (l.getD k default).kind (l.getD k default).v) = false := decide_eq_false (by have := HX.out.2; omega)
    have HT := hJ (HR.out.take k hk); have HRX := hJ hr
    have HC2 := hJ (fun (W : World) (hW : Below wr.heap.size wr W) => kFL (l.take k) _ k c W (HT.out.below hW) (l.getD k default).kind (l.getD k default).v)
    have HC1 := hJ (fun (W : World) (hW : Below wr.heap.size wr W) => shape_bound (RBnd.below HRX.out hW) HX.out.1 (EE.out.below (hB.trans (hW.mono hB.size))))
    clear hr htt hdd
    generalize kBA (l.take k) (l.getD k default).kind (l.getD k default).v = q at *
    generalize l.getD k default = x at *
    go_wp2_with fail
    have hA : Below wr.heap.size wr (wr.alloc (.cells #[.int .i64 x.kind, .string x.v, .int .i64 x.dim.const, .slice ta x.dim.terms.length tc, .string x.row.row, .slice da x.row.dims.length dc, .string x.elem] 103)) := (Below.refl _ _).alloc (Nat.le_refl _) _
    have e0 : (wr.alloc (.cells #[.int .i64 x.kind, .string x.v, .int .i64 x.dim.const, .slice ta x.dim.terms.length tc, .string x.row.row, .slice da x.row.dims.length dc, .string x.elem] 103)).cell? ⟨wr.heap.size, 0, none⟩ = some (.int .i64 x.kind) := by simp [go_sem]
    have e1 : (wr.alloc (.cells #[.int .i64 x.kind, .string x.v, .int .i64 x.dim.const, .slice ta x.dim.terms.length tc, .string x.row.row, .slice da x.row.dims.length dc, .string x.elem] 103)).cell? ⟨wr.heap.size, 1, none⟩ = some (.string x.v) := by simp [go_sem]
    have e2 : (wr.alloc (.cells #[.int .i64 x.kind, .string x.v, .int .i64 x.dim.const, .slice ta x.dim.terms.length tc, .string x.row.row, .slice da x.row.dims.length dc, .string x.elem] 103)).cell? ⟨wr.heap.size, 2, none⟩ = some (.int .i64 x.dim.const) := by simp [go_sem]
    have e3 : (wr.alloc (.cells #[.int .i64 x.kind, .string x.v, .int .i64 x.dim.const, .slice ta x.dim.terms.length tc, .string x.row.row, .slice da x.row.dims.length dc, .string x.elem] 103)).cell? ⟨wr.heap.size, 3, none⟩ = some (.slice ta x.dim.terms.length tc) := by simp [go_sem]
    have e4 : (wr.alloc (.cells #[.int .i64 x.kind, .string x.v, .int .i64 x.dim.const, .slice ta x.dim.terms.length tc, .string x.row.row, .slice da x.row.dims.length dc, .string x.elem] 103)).cell? ⟨wr.heap.size, 4, none⟩ = some (.string x.row.row) := by simp [go_sem]
    have e5 : (wr.alloc (.cells #[.int .i64 x.kind, .string x.v, .int .i64 x.dim.const, .slice ta x.dim.terms.length tc, .string x.row.row, .slice da x.row.dims.length dc, .string x.elem] 103)).cell? ⟨wr.heap.size, 5, none⟩ = some (.slice da x.row.dims.length dc) := by simp [go_sem]
    have e6 : (wr.alloc (.cells #[.int .i64 x.kind, .string x.v, .int .i64 x.dim.const, .slice ta x.dim.terms.length tc, .string x.row.row, .slice da x.row.dims.length dc, .string x.elem] 103)).cell? ⟨wr.heap.size, 6, none⟩ = some (.string x.elem) := by simp [go_sem]
    clear c0 c1 c2 c3 c4 c5 c6
    have hws : wr.heap.size < (wr.alloc (.cells #[.int .i64 x.kind, .string x.v, .int .i64 x.dim.const, .slice ta x.dim.terms.length tc, .string x.row.row, .slice da x.row.dims.length dc, .string x.elem] 103)).heap.size := by simp
    generalize (wr.alloc (.cells #[.int .i64 x.kind, .string x.v, .int .i64 x.dim.const, .slice ta x.dim.terms.length tc, .string x.row.row, .slice da x.row.dims.length dc, .string x.elem] 103)) = w2 at *
    have HC1 := hJ (fun t : Later w2 => HC1.out t.w (hA.trans (t.b.mono hA.size)))
    have HC2 := hJ (fun t : Later w2 => HC2.out t.w (hA.trans (t.b.mono hA.size)))
    have e0 := Later.cell e0; have e1 := Later.cell e1; have e2 := Later.cell e2; have e3 := Later.cell e3; have e4 := Later.cell e4; have e5 := Later.cell e5; have e6 := Later.cell e6; have hBA := hJ (hB.trans (hA.mono hB.size)); clear hA
    go_wp2_with fail
    refine kAB (by kernel_rfl) (by kernel_rfl) ?_
    repeat (go_big_quiet_step (first | fail | exact Later.call (HC1.out _) | exact Later.call (HC2.out _)))
    refine wpQuiet_nil ?_
    rintro _ ⟨t9, rfl⟩
    go_wp2_with fail
    go_roundw
    case rel => exact ⟨k + 1, by omega, by go_num, hBA.out.trans (t9.b.mono hBA.out.size)⟩
    case measure => simp [intOf]; omega
  · go_wp2_with fail
    go_ret
    exact ⟨rfl, hB⟩
theorem kGH {l0 : List Bnd} {x : Lin} {j : Nat} (hj : j < x.terms.length) : addAll l0 ((kAN x).take (j + 1)) = addV (addAll l0 ((kAN x).take j)) 1 ((kAN x).getD j default) := by
 have h : j < (kAN x).length := by unfold kAN; rw [List.length_map]; exact hj
 rw [kAU h, kB6]; rfl
theorem varsL_len (x : Lin) : (kAN x).length = x.terms.length := by unfold kAN; rw [List.length_map]
theorem rowV_some {s : Shp} (h : s.row.toList.isEmpty = false) : rowV s = [] ++ [bare 2 s.row] := by
 unfold rowV
 rw [h]
 rfl
theorem Sl.str {S : Blk} {w : World} {b off n c : Nat} {l : List Str} (h : Sl RStr S w (some ⟨b, off, none⟩) n c l) (k : Nat) (hk : k < n) : w.cell? ⟨b, off + k, none⟩ = some (.string (l.getD k default)) := by
 obtain ⟨cs, hr, hc⟩ := h.cells k _ (kCY (by rw [h.len]; exact hk))
 obtain rfl : cs = _ := hr
 have := hc 0 _ rfl
 simpa [RStr] using this
def At (a : Option Addr) : Blk := fun k => ∃ b, a = some b ∧ b.block = k
theorem Sl.selfStr {S : Blk} {w : World} {a : Option Addr} {n c : Nat} {l : List Str} (h : Sl RStr S w a n c l) : Sl RStr (At a) w a n c l :=
 ⟨h.len, h.cap, h.max, h.nil, fun i x hx => let ⟨b, off, cs, ha, _, hr, hc⟩ := h.at_ i x hx; ⟨b, off, cs, ha, ⟨_, ha, rfl⟩, hr, hc⟩⟩
theorem addV_old {l : List Bnd} {k : Int} {v : Str} (h : 0 ≤ kBA l k v) : addV l k v = l := by unfold addV; rw [if_pos h]
theorem addV_new {l : List Bnd} {k : Int} {v : Str} (h : kBA l k v < 0) : addV l k v = l ++ [bare k v] := by unfold addV; rw [if_neg (by omega)]
theorem shape_Vars {S : Blk} {s : Shp} {cs : List Value} {w : World} (h : RShp.rd S w cs s) (hv : kAL s = true) (E : Env w) :
 Calls Tryz.prog 142 #[.agg cs.toArray] w fun e w' => (∃ v, e = .returned v ∧ Own RBnd 103 (fun _ => False) w' w.heap.size v (kCV s)) ∧ Below w.heap.size w w' := by
 have HV : Hid (∀ W, Below w.heap.size w W → Calls Tryz.prog 128 #[.agg cs.toArray] W fun e w' => e = .returned (.bool true) ∧ Below W.heap.size W w') :=
  hJ (fun W hW => hv ▸ kDJ (RShp.below h hW) (shp_sz hv) (E.below hW))
 obtain ⟨t, rfl, a, c, rfl, hs⟩ := h; have hm := hs.small; have HS0 := hJ hs; clear hs
 have hL : s.dims.length = s.dims.length := rfl
 generalize hL2 : s.dims.length = n at *
 have HL := hJ hL2; clear hL hL2; obtain ⟨B0, ya, hW0⟩ := box1 w 37 [.string s.row, .slice a n c]; have xa0 := box0 ya 0 _ rfl; have xa1 := box0 ya 1 _ rfl; clear ya; have HD := hJ (kBW hv)
 have HF : Hid (kCV s = varsS s) := hJ (by unfold kCV; rw [hv]; rfl)
 clear hv E
 go_enter func142, ntmps142
 go_wp2_with fail
 refine (HV.out _ B0.out).mono ?_
 rintro e w1 ⟨rfl, hb⟩
 have y0 := kAC xa0 _ hb; have y1 := kAC xa1 _ hb; have HW := hJ (B0.out.trans (hb.mono B0.out.size)); have HS := hJ (HS0.out.below HW.out); clear xa0 xa1
 by_cases he : s.row.toList.isEmpty = true
 · have HO0 : Hid (Own RBnd 103 (fun _ => False) w1 w1.heap.size (.slice none 0 0) (addAll (rowV s) ((s.dims.take 0).flatMap kAN))) := hJ (by
    have : rowV s = [] := by unfold rowV; rw [he]; rfl
    rw [this]; exact Own.nil _ _ _ _ _)
   have hB0 : Below w1.heap.size w1 w1 := Below.refl _ _
   go_wp2_with fail
   go_loopw [3, 23] (fun v i wr => ∃ (k : Nat) (v0 : Value), k ≤ n ∧ i = .int .i64 k ∧ v0 = v ∧ Hid (Own RBnd 103 (fun _ => False) wr w1.heap.size v (addAll (rowV s) ((s.dims.take k).flatMap kAN))) ∧ Below w1.heap.size w1 wr) (fun _ i _ => n - (intOf i).toNat)
   case atStart => exact ⟨0, _, Nat.zero_le _, rfl, rfl, HO0, hB0⟩
   case round =>
    obtain ⟨k, v0, hk, rfl, rfl, HO, hB⟩ := hrel
    by_cases hlt : k < n
    · obtain ⟨b, off, rfl, hbW, _⟩ := HS.out.form k hlt
      have HK : Hid (k < s.dims.length) := hJ (by rw [HL.out]; exact hlt)
      have HX := hJ (kBV (HD.out.2 _ (kAI HK.out)))
      have HNext : Hid ((s.dims.take (k + 1)).flatMap kAN = (s.dims.take k).flatMap kAN ++ kAN (s.dims.getD k default)) := hJ (by rw [kAU HK.out, List.flatMap_append]; simp)
      have HLen : Hid ((addAll (rowV s) ((s.dims.take k).flatMap kAN)).length ≤ 100) := hJ (by
       have q1 := kBO ((s.dims.take k).flatMap kAN) (rowV s); have q2 := kGN s
       have q3 := kDU (s.dims.take k) (fun x hx => HD.out.2 x (List.mem_of_mem_take hx))
       have q4 := HD.out.1; rw [List.length_take] at q3
       omega)
      obtain ⟨t, hr, hd, c0, c1⟩ := (HS.out.below hB).lin k hlt; obtain ⟨ta, tc, rfl, hts⟩ := hd; have HT := hJ hts; clear hr hts
      generalize s.dims.getD k default = x at *
      generalize hl0 : addAll (rowV s) ((s.dims.take k).flatMap kAN) = l0 at *
      have HL0 := hJ hl0; clear hl0
      have HC := hJ (fun (W : World) (hW : Below wr.heap.size wr W) => kGA x ta _ tc W (HT.out.below hW) (by have := HX.out; omega))
      generalize hXL : x.terms.length = m at *
      have HXL := hJ hXL; clear hXL
      go_wp2_with fail
      refine (HC.out _ ((Below.refl _ _).alloc (Nat.le_refl _) _)).mono ?_
      rintro e w2 ⟨⟨v2, rfl, hown2⟩, hb2⟩
      obtain ⟨a2, c2, rfl, hsl2⟩ := hown2.sl
      have hB2 : Below w1.heap.size w1 w2 := hB.trans ((((Below.refl _ _).alloc (Nat.le_refl _) _).trans (hb2.mono (by simp))).mono hB.size)
      have HO2 := hJ (HO.out.below (((Below.refl _ _).alloc (Nat.le_refl _) _).trans (hb2.mono (by simp))))
      have hvl : (kAN x).length = m := by rw [varsL_len, HXL.out]
      rw [hvl] at hsl2; have HSL2 := hJ hsl2.selfStr
      have HNe : Hid (∀ k, At a2 k → v0.ownBlock ≠ some k) := hJ (fun k hk e => by
       obtain ⟨b, rfl, rfl⟩ := hk
       have h1 := hown2.base_le b.block (by rfl)
       have h2 := (HO.out.block e).2
       simp at h1
       omega)
      have hm2 := hsl2.small
      have HNe2 : Hid (∀ k, At a2 k → k < w2.heap.size ∧ v0.ownBlock ≠ some k) := hJ (fun k hk => ⟨by
       obtain ⟨b, rfl, rfl⟩ := hk
       exact (hown2.block (by rfl)).2, HNe.out k hk⟩)
      clear hsl2 hown2 hb2 HO hB c0 c1; rw [hvl]; have HVL := hJ hvl; clear hvl
      go_wp2_with fail
      go_loopw [3, 30] (fun v i wr => ∃ j : Nat, j ≤ m ∧ i = .int .i64 j ∧ Hid (Own RBnd 103 (fun _ => False) wr w1.heap.size v (addAll l0 ((kAN x).take j))) ∧ Hid (Sl RStr (At a2) wr a2 m c2 (kAN x)) ∧ Hid (∀ k, At a2 k → k < w2.heap.size ∧ v.ownBlock ≠ some k) ∧ Below w1.heap.size w1 wr ∧ w2.heap.size ≤ wr.heap.size) (fun _ i _ => m - (intOf i).toNat)
      case atStart => exact ⟨0, Nat.zero_le _, rfl, HO2, HSL2, HNe2, hB2, Nat.le_refl _⟩
      case round =>
       obtain ⟨j, hj, rfl, HO3, HS3, HN3, hB4, hsz4⟩ := hrel
       by_cases hlj : j < m
       · obtain ⟨b2, off2, rfl, hbW2, _⟩ := HS3.out.form j hlj
         have f0 := HS3.out.str j hlj
         have HKj : Hid (j < x.terms.length) := hJ (by rw [HXL.out]; exact hlj)
         have HStep := hJ (kGH (l0 := l0) HKj.out)
         have hLen2 : (addAll l0 ((kAN x).take j)).length ≤ 1000000 := by
          have q1 := kBO ((kAN x).take j) l0; have q2 := HLen.out; rw [List.length_take] at q1; have q3 := HX.out; have q4 := HXL.out
          omega
         obtain ⟨a3, c3, rfl, hsl3⟩ := HO3.out.sl; have HC3 := hJ (kFL _ a3 _ c3 wr hsl3 1 ((kAN x).getD j default))
         have HOld := hJ (fun q => addV_old (l := addAll l0 ((kAN x).take j)) (k := 1) (v := (kAN x).getD j default) q)
         have HNew := hJ (fun q => addV_new (l := addAll l0 ((kAN x).take j)) (k := 1) (v := (kAN x).getD j default) q)
         clear hsl3
         generalize (kAN x).getD j default = y at *
         generalize addAll l0 ((kAN x).take j) = l1 at *
         generalize kBA l1 1 y = q at *
         by_cases hq : q < 0
         · have HNew := hJ (HNew.out hq)
           go_wp2_with fail
           refine (HC3.out).mono ?_
           rintro e w4 ⟨rfl, hb4⟩
           go_wp2_with (at_builtin; refine kA8 kD4 rfl _ _ rfl w1.heap.size _ _ rfl ((HO3.out.below hb4).alloc _) _ (bare 1 y) [.int .i64 1, .string y, .int .i64 0, .slice none 0 0, .string ⟨#[]⟩, .slice none 0 0, .string ⟨#[]⟩] rfl (⟨_, _, rfl, ⟨none, 0, rfl, Sl.empty _ _ _⟩, ⟨none, 0, rfl, Sl.empty _ _ _⟩⟩) (kA4 103 (by (simp only [kAG, kAE, Array.getElem?_push, Array.size_push]; simp))) (by rw [(show l1.length = l1.length from rfl)]; omega) (by unfold maxLen; rw [(show l1.length = l1.length from rfl)]; omega) (by have := hB4.size; have := hb4.size; simp; omega) ?_; intro v9 w9 hown9 hb9 hk9)
           go_roundw
           case rel => exact ⟨j + 1, by omega, by go_num, hJ (by rw [HStep.out, HNew.out]; exact hown9), hJ (((HS3.out.below hb4).below ((Below.refl _ _).alloc (Nat.le_refl _) _)).frame (fun k hk hlt => hk9.block k hlt (HN3.out k hk).2)), hJ (fun k hk => ⟨(HN3.out k hk).1, fun e => by rcases hk9.own with q | q; rw [q] at e; exact (HN3.out k hk).2 e; rw [q] at e; have := (HN3.out k hk).1; have h4 := hb4.size; simp at e; omega⟩), (hB4.trans ((hb4.alloc hb4.size _).mono hB4.size)).trans hb9, by have h4 := hb4.size; have h9 := hb9.size; simp at h9; omega⟩
           case measure => simp [intOf]; omega
         · have HOld := hJ (HOld.out (by omega))
           have hq2 : 0 ≤ q := by omega
           clear hq
           go_wp2_with fail
           refine (HC3.out).mono ?_
           rintro e w4 ⟨rfl, hb4⟩
           go_wp2_with fail
           go_roundw
           case rel => exact ⟨j + 1, by omega, by go_num, hJ (by rw [HStep.out, HOld.out]; exact HO3.out.below hb4), hJ (HS3.out.below hb4), HN3, hB4.trans (hb4.mono hB4.size), Nat.le_trans hsz4 hb4.size⟩
           case measure => simp [intOf]; omega
       · have HEnd : Hid (addAll l0 ((kAN x).take j) = addAll l0 (kAN x)) := hJ (by
          rw [List.take_of_length_le]; rw [HVL.out]; omega)
         go_wp2_with fail
         go_roundw
         case rel => exact ⟨k + 1, _, by omega, by go_num, rfl, hJ (by rw [HNext.out, kB6, HL0.out, ← HEnd.out]; exact HO3.out), hB4⟩
         case measure => simp [intOf]; omega
    · have HAll : Hid (s.dims.take k = s.dims) := hJ (List.take_of_length_le (by rw [HL.out]; omega))
      go_wp2_with fail
      go_ret
      exact ⟨⟨_, rfl, by rw [HF.out]; unfold varsS; have := HO.out.lower HW.out.size; rwa [HAll.out] at this⟩, HW.out.trans (hB.mono HW.out.size)⟩
 · have he : s.row.toList.isEmpty = false := by simpa using he
   have HR := hJ (rowV_some he)
   go_wp2_with (at_builtin; refine kA8 kD4 rfl _ _ rfl w1.heap.size _ _ rfl ((Own.nil RBnd 103 (fun _ => False) w1 w1.heap.size).alloc _) _ (bare 2 s.row) [.int .i64 2, .string s.row, .int .i64 0, .slice none 0 0, .string ⟨#[]⟩, .slice none 0 0, .string ⟨#[]⟩] rfl ⟨_, _, rfl, ⟨none, 0, rfl, Sl.empty _ _ _⟩, ⟨none, 0, rfl, Sl.empty _ _ _⟩⟩ (kA4 103 (by (simp only [kAG, kAE, Array.getElem?_push, Array.size_push]; simp))) (by decide) (by decide) (by simp) ?_; intro v9 w9 hown9 hb9 hk9; have z9 := kAC y1 _ (((Below.refl _ _).alloc (Nat.le_refl _) _).trans hb9))
   have HO0 : Hid (Own RBnd 103 (fun _ => False) w9 w1.heap.size v9 (addAll (rowV s) ((s.dims.take 0).flatMap kAN))) := hJ (by rw [HR.out]; exact hown9)
   have hB0 : Below w1.heap.size w1 w9 := ((Below.refl _ _).alloc (Nat.le_refl _) _).trans (hb9.mono (by simp))
   clear hown9
   go_loopw [3, 23] (fun v i wr => ∃ (k : Nat) (v0 : Value), k ≤ n ∧ i = .int .i64 k ∧ v0 = v ∧ Hid (Own RBnd 103 (fun _ => False) wr w1.heap.size v (addAll (rowV s) ((s.dims.take k).flatMap kAN))) ∧ Below w1.heap.size w1 wr) (fun _ i _ => n - (intOf i).toNat)
   case atStart => exact ⟨0, _, Nat.zero_le _, rfl, rfl, HO0, hB0⟩
   case round =>
    obtain ⟨k, v0, hk, rfl, rfl, HO, hB⟩ := hrel
    by_cases hlt : k < n
    · obtain ⟨b, off, rfl, hbW, _⟩ := HS.out.form k hlt
      have HK : Hid (k < s.dims.length) := hJ (by rw [HL.out]; exact hlt)
      have HX := hJ (kBV (HD.out.2 _ (kAI HK.out)))
      have HNext : Hid ((s.dims.take (k + 1)).flatMap kAN = (s.dims.take k).flatMap kAN ++ kAN (s.dims.getD k default)) := hJ (by rw [kAU HK.out, List.flatMap_append]; simp)
      have HLen : Hid ((addAll (rowV s) ((s.dims.take k).flatMap kAN)).length ≤ 100) := hJ (by
       have q1 := kBO ((s.dims.take k).flatMap kAN) (rowV s); have q2 := kGN s
       have q3 := kDU (s.dims.take k) (fun x hx => HD.out.2 x (List.mem_of_mem_take hx))
       have q4 := HD.out.1; rw [List.length_take] at q3
       omega)
      obtain ⟨t, hr, hd, c0, c1⟩ := (HS.out.below hB).lin k hlt; obtain ⟨ta, tc, rfl, hts⟩ := hd; have HT := hJ hts; clear hr hts
      generalize s.dims.getD k default = x at *
      generalize hl0 : addAll (rowV s) ((s.dims.take k).flatMap kAN) = l0 at *
      have HL0 := hJ hl0; clear hl0
      have HC := hJ (fun (W : World) (hW : Below wr.heap.size wr W) => kGA x ta _ tc W (HT.out.below hW) (by have := HX.out; omega))
      generalize hXL : x.terms.length = m at *
      have HXL := hJ hXL; clear hXL
      go_wp2_with fail
      refine (HC.out _ ((Below.refl _ _).alloc (Nat.le_refl _) _)).mono ?_
      rintro e w2 ⟨⟨v2, rfl, hown2⟩, hb2⟩
      obtain ⟨a2, c2, rfl, hsl2⟩ := hown2.sl
      have hB2 : Below w1.heap.size w1 w2 := hB.trans ((((Below.refl _ _).alloc (Nat.le_refl _) _).trans (hb2.mono (by simp))).mono hB.size)
      have HO2 := hJ (HO.out.below (((Below.refl _ _).alloc (Nat.le_refl _) _).trans (hb2.mono (by simp))))
      have hvl : (kAN x).length = m := by rw [varsL_len, HXL.out]
      rw [hvl] at hsl2; have HSL2 := hJ hsl2.selfStr
      have HNe : Hid (∀ k, At a2 k → v0.ownBlock ≠ some k) := hJ (fun k hk e => by
       obtain ⟨b, rfl, rfl⟩ := hk
       have h1 := hown2.base_le b.block (by rfl)
       have h2 := (HO.out.block e).2
       simp at h1
       omega)
      have hm2 := hsl2.small
      have HNe2 : Hid (∀ k, At a2 k → k < w2.heap.size ∧ v0.ownBlock ≠ some k) := hJ (fun k hk => ⟨by
       obtain ⟨b, rfl, rfl⟩ := hk
       exact (hown2.block (by rfl)).2, HNe.out k hk⟩)
      clear hsl2 hown2 hb2 HO hB c0 c1; rw [hvl]; have HVL := hJ hvl; clear hvl
      go_wp2_with fail
      go_loopw [3, 30] (fun v i wr => ∃ j : Nat, j ≤ m ∧ i = .int .i64 j ∧ Hid (Own RBnd 103 (fun _ => False) wr w1.heap.size v (addAll l0 ((kAN x).take j))) ∧ Hid (Sl RStr (At a2) wr a2 m c2 (kAN x)) ∧ Hid (∀ k, At a2 k → k < w2.heap.size ∧ v.ownBlock ≠ some k) ∧ Below w1.heap.size w1 wr ∧ w2.heap.size ≤ wr.heap.size) (fun _ i _ => m - (intOf i).toNat)
      case atStart => exact ⟨0, Nat.zero_le _, rfl, HO2, HSL2, HNe2, hB2, Nat.le_refl _⟩
      case round =>
       obtain ⟨j, hj, rfl, HO3, HS3, HN3, hB4, hsz4⟩ := hrel
       by_cases hlj : j < m
       · obtain ⟨b2, off2, rfl, hbW2, _⟩ := HS3.out.form j hlj
         have f0 := HS3.out.str j hlj
         have HKj : Hid (j < x.terms.length) := hJ (by rw [HXL.out]; exact hlj)
         have HStep := hJ (kGH (l0 := l0) HKj.out)
         have hLen2 : (addAll l0 ((kAN x).take j)).length ≤ 1000000 := by
          have q1 := kBO ((kAN x).take j) l0; have q2 := HLen.out; rw [List.length_take] at q1; have q3 := HX.out; have q4 := HXL.out
          omega
         obtain ⟨a3, c3, rfl, hsl3⟩ := HO3.out.sl; have HC3 := hJ (kFL _ a3 _ c3 wr hsl3 1 ((kAN x).getD j default))
         have HOld := hJ (fun q => addV_old (l := addAll l0 ((kAN x).take j)) (k := 1) (v := (kAN x).getD j default) q)
         have HNew := hJ (fun q => addV_new (l := addAll l0 ((kAN x).take j)) (k := 1) (v := (kAN x).getD j default) q)
         clear hsl3
         generalize (kAN x).getD j default = y at *
         generalize addAll l0 ((kAN x).take j) = l1 at *
         generalize kBA l1 1 y = q at *
         by_cases hq : q < 0
         · have HNew := hJ (HNew.out hq)
           go_wp2_with fail
           refine (HC3.out).mono ?_
           rintro e w4 ⟨rfl, hb4⟩
           go_wp2_with (at_builtin; refine kA8 kD4 rfl _ _ rfl w1.heap.size _ _ rfl ((HO3.out.below hb4).alloc _) _ (bare 1 y) [.int .i64 1, .string y, .int .i64 0, .slice none 0 0, .string ⟨#[]⟩, .slice none 0 0, .string ⟨#[]⟩] rfl (⟨_, _, rfl, ⟨none, 0, rfl, Sl.empty _ _ _⟩, ⟨none, 0, rfl, Sl.empty _ _ _⟩⟩) (kA4 103 (by (simp only [kAG, kAE, Array.getElem?_push, Array.size_push]; simp))) (by rw [(show l1.length = l1.length from rfl)]; omega) (by unfold maxLen; rw [(show l1.length = l1.length from rfl)]; omega) (by have := hB4.size; have := hb4.size; simp; omega) ?_; intro v9 w9 hown9 hb9 hk9)
           go_roundw
           case rel => exact ⟨j + 1, by omega, by go_num, hJ (by rw [HStep.out, HNew.out]; exact hown9), hJ (((HS3.out.below hb4).below ((Below.refl _ _).alloc (Nat.le_refl _) _)).frame (fun k hk hlt => hk9.block k hlt (HN3.out k hk).2)), hJ (fun k hk => ⟨(HN3.out k hk).1, fun e => by rcases hk9.own with q | q; rw [q] at e; exact (HN3.out k hk).2 e; rw [q] at e; have := (HN3.out k hk).1; have h4 := hb4.size; simp at e; omega⟩), (hB4.trans ((hb4.alloc hb4.size _).mono hB4.size)).trans hb9, by have h4 := hb4.size; have h9 := hb9.size; simp at h9; omega⟩
           case measure => simp [intOf]; omega
         · have HOld := hJ (HOld.out (by omega))
           have hq2 : 0 ≤ q := by omega
           clear hq
           go_wp2_with fail
           refine (HC3.out).mono ?_
           rintro e w4 ⟨rfl, hb4⟩
           go_wp2_with fail
           go_roundw
           case rel => exact ⟨j + 1, by omega, by go_num, hJ (by rw [HStep.out, HOld.out]; exact HO3.out.below hb4), hJ (HS3.out.below hb4), HN3, hB4.trans (hb4.mono hB4.size), Nat.le_trans hsz4 hb4.size⟩
           case measure => simp [intOf]; omega
       · have HEnd : Hid (addAll l0 ((kAN x).take j) = addAll l0 (kAN x)) := hJ (by
          rw [List.take_of_length_le]; rw [HVL.out]; omega)
         go_wp2_with fail
         go_roundw
         case rel => exact ⟨k + 1, _, by omega, by go_num, rfl, hJ (by rw [HNext.out, kB6, HL0.out, ← HEnd.out]; exact HO3.out), hB4⟩
         case measure => simp [intOf]; omega
    · have HAll : Hid (s.dims.take k = s.dims) := hJ (List.take_of_length_le (by rw [HL.out]; omega))
      go_wp2_with fail
      go_ret
      exact ⟨⟨_, rfl, by rw [HF.out]; unfold varsS; have := HO.out.lower HW.out.size; rwa [HAll.out] at this⟩, HW.out.trans (hB.mono HW.out.size)⟩
theorem Sl.selfCoef {S : Blk} {w : World} {a : Option Addr} {n c : Nat} {l : List Coef} (h : Sl kBP S w a n c l) : Sl kBP (At a) w a n c l :=
 ⟨h.len, h.cap, h.max, h.nil, fun i x hx => let ⟨b, off, cs, ha, _, hr, hc⟩ := h.at_ i x hx; ⟨b, off, cs, ha, ⟨_, ha, rfl⟩, hr, hc⟩⟩
theorem kFZ {a : Option Addr} {n c k : Nat} (h : At a k) : (Value.slice a n c).ownBlock = some k := by
 obtain ⟨b, rfl, rfl⟩ := h
 rfl
theorem timesT_take {l : List Coef} {x : List Coef} {k : Int} {i : Nat} (h : i < x.length) : kBK l (x.take (i + 1)) k = plus (kBK l (x.take i) k) (x.getD i default).v (k * (x.getD i default).c) := by
 unfold kBK
 rw [kAU h, List.foldl_append]; rfl
theorem ref04_Times {S T : Blk} {x y : Lin} {cs ds : List Value} {w : World} (h : RLin.rd S w cs x) (h2 : RLin.rd T w ds y) {n0 : Nat} (hn0 : n0 ≤ 12) (hok : SumOk n0 x) (hy : kAD y = true) (k : Int) (hk : -1000000 ≤ k ∧ k ≤ 1000000) :
 Calls Tryz.prog 123 #[.agg cs.toArray, .agg ds.toArray, .int .i64 k] w fun e w' => (∃ ds, e = .returned (.agg ds.toArray) ∧ RLin.rd (fun k => w.heap.size ≤ k) w' ds (kB8 x y k)) ∧ Below w.heap.size w w' := by
 obtain ⟨_, rfl, ax, cx, rfl, hsx⟩ := h; obtain ⟨_, rfl, ay, cy, rfl, hsy⟩ := h2; obtain ⟨q1, q2, q3, q4, q5, q6⟩ := kBF hy; have hm := mul_bd hk q5; have hlo := hok.lo; have hhi := hok.hi; have hlen := hok.len; have HOK := hJ hok; have HY := hJ q3; have HK := hJ hk; have HSX := hJ hsx; have HSY := hJ hsy; have hmx := hsx.small; have hmy := hsy.small; clear hsx hsy q1 q2 q3 q4 hok hy
 generalize hnx : x.terms.length = n at *
 generalize hny : y.terms.length = m at *
 have HNX := hJ hnx; have HNY := hJ hny
 have hmul1 : -9223372036854775808 ≤ k * y.const := by omega
 have hmul2 : k * y.const ≤ 9223372036854775807 := by omega
 have hadd1 : -9223372036854775808 ≤ x.const + k * y.const := by omega
 have hadd2 : x.const + k * y.const ≤ 9223372036854775807 := by omega
 have hw1 : IntKind.i64.wrap (k * y.const) = k * y.const := by rw [IntKind.wrap_i64]; omega
 have hw2 : IntKind.i64.wrap (x.const + k * y.const) = x.const + k * y.const := by rw [IntKind.wrap_i64]; omega
 clear hnx hny; obtain ⟨B0, ya, yb, yc, hW0⟩ := box3 w 65 [.int .i64 x.const, .slice ax n cx] 65 [.int .i64 y.const, .slice ay m cy] 65 [.int .i64 0, .slice none 0 0]; have xa0 := box0 ya 0 _ rfl; have xa1 := box0 ya 1 _ rfl; have xb0 := box0 yb 0 _ rfl; have xb1 := box0 yb 1 _ rfl; have xc0 := box0 yc 0 _ rfl; have xc1 := box0 yc 1 _ rfl
 have bka : Bx _ _ _ _ := ya; have bkb : Bx _ _ _ _ := yb; have bkc : Bx _ _ _ _ := yc
 clear ya yb yc; have HB6 := hJ bkc; clear bka bkb bkc
 go_enter func123, ntmps123
 go_wp2_with fail
 generalize (((w.alloc (.cells #[.int .i64 x.const, .slice ax n cx] 65)).alloc (.cells #[.int .i64 y.const, .slice ay m cy] 65)).alloc (.cells #[.int .i64 0, .slice none 0 0] 65)) = W at *
 have HSXW := hJ (HSX.out.below B0.out); have HW0 := hJ hW0
 have hlt0 : w.heap.size < W.heap.size := by omega
 have hlt1 : w.heap.size + 1 < W.heap.size := by omega
 have hlt2 : w.heap.size + 1 + 1 < W.heap.size := by omega
 clear hW0
 have h0 : ∀ k, (Value.slice (some ⟨W.heap.size, 0, none⟩) 0 0).ownBlock = some k → W.heap.size ≤ k := by intro k e; simp [Value.ownBlock] at e; omega
 have h1 : ∀ k, (Value.slice (some ⟨W.heap.size + 1, 0, none⟩) 0 0).ownBlock = some k → W.heap.size ≤ k := by intro k e; simp [Value.ownBlock] at e; omega
 go_region_held3 (fun w' => w'.cell? ⟨w.heap.size, 0, none⟩ = some (.int .i64 x.const) ∧ w'.cell? ⟨w.heap.size, 1, none⟩ = some (.slice ax n cx) ∧ w'.cell? ⟨w.heap.size + 1, 0, none⟩ = some (.int .i64 y.const)) (first | go_keep | exact ⟨e00, e01, e10⟩ | exact ⟨(World.cell?_setCell_far _ _ _ _ (by simp only [ne_eq]; omega)).trans ((World.cell?_setCell_far _ _ _ _ (by simp only [ne_eq]; omega)).trans e00), (World.cell?_setCell_far _ _ _ _ (by simp only [ne_eq]; omega)).trans ((World.cell?_setCell_far _ _ _ _ (by simp only [ne_eq]; omega)).trans e01), (World.cell?_setCell_far _ _ _ _ (by simp only [ne_eq]; omega)).trans ((World.cell?_setCell_far _ _ _ _ (by simp only [ne_eq]; omega)).trans e10)⟩) (first
  | (refine step_sl kC1 rfl (.tmp 16) (.tmp 18) rfl W.heap.size _ [] x.terms rfl (Own.at0 kBP _ S (by (simp only [kAG, kAE, Array.getElem?_push, Array.size_push]; simp)) (by simp)) ax _ cx rfl (HSXW.out.later (by go_grown) (by assumption)) (by simp; omega) (by unfold maxLen; simp; omega) (by simp <;> omega) ?_
     intro v4 w4 hown4 hb4 hk4
     obtain ⟨a4, c4, rfl, hsl4⟩ := hown4.sl
     change Kp (.slice (some ⟨_, 0, none⟩) 0 0) _ _ w4 at hk4
     have hB4 : Below W.heap.size W w4 := Below.trans (by go_grown) hb4
     have e00 := kAC xa0 _ hB4; have e01 := kAC xa1 _ hB4; have e10 := kAC xb0 _ hB4
     have l0 : w.heap.size < w4.heap.size := by have := hB4.size; omega
     have l1 : w.heap.size + 1 < w4.heap.size := by have := hB4.size; omega
     first
     | (have HZ1 : Bx w4 (W.heap.size + 1) 65 [.int .i64 0, .slice none 0 0] := (hk4.block (W.heap.size + 1) (by first | (simp; done) | fail) (by first | (simp [Value.ownBlock]; done) | fail)).trans (by first | ((simp only [kAG, kAE, Array.getElem?_push, Array.size_push]; simp); done) | fail)
        have u0 := HZ1.cell 0 _ rfl; have u1 := HZ1.cell 1 _ rfl; have u2 := HZ1.fz 0
        have u3 := HZ1.fz 1)
     | (have HZ0 : Bx w4 W.heap.size 65 [.int .i64 0, .slice none 0 0] := (hk4.block W.heap.size (by first | (simp; done) | (simp; omega) | fail) (by first | (simp [Value.ownBlock]; done) | fail)).trans (by first | ((simp only [kAG, kAE, Array.getElem?_push, Array.size_push]; simp); done) | fail)
        have u0 := HZ0.cell 0 _ rfl; have u1 := HZ0.cell 1 _ rfl; have u2 := HZ0.fz 0
        have u3 := HZ0.fz 1)
     | skip))
 all_goals
  rw [List.nil_append, HNX.out] at hown4 hsl4
  simp only [HNX.out, List.nil_append, hw1, hw2]
  have HSl4 := hJ hsl4.selfCoef; have HOwn4 := hJ hown4; have HK4 := hJ hk4; have HB4 := hJ hB4; clear hsl4 hown4 hk4 hB4 hb4 h0 h1
 all_goals first
  | (have HX : Hid (Bx ((w4.setCell ⟨W.heap.size + 1, 0, none⟩ (.int .i64 (x.const + k * y.const))).setCell ⟨W.heap.size + 1, 1, none⟩ (.slice a4 n c4)) (W.heap.size + 1) 65 [.int .i64 (x.const + k * y.const), .slice a4 n c4]) := hJ ((HZ1.set 0 _).set 1 _)
     have HSl : Hid (Sl kBP (fun q => w.heap.size + 3 ≤ q ∧ q ≠ W.heap.size + 1) ((w4.setCell ⟨W.heap.size + 1, 0, none⟩ (.int .i64 (x.const + k * y.const))).setCell ⟨W.heap.size + 1, 1, none⟩ (.slice a4 n c4)) a4 n c4 x.terms) := hJ (by
      have hne : ∀ q, At a4 q → w.heap.size + 3 ≤ q ∧ q ≠ W.heap.size + 1 := fun q hq => by
       have e1 := HOwn4.out.base_le q (kFZ hq); have e2 := HW0.out
       refine ⟨by omega, fun e => ?_⟩
       rcases HK4.out.own with r | r
       · rw [kFZ hq] at r
         simp [Value.ownBlock] at r
         omega
       · rw [kFZ hq] at r
         simp at r
         omega
      refine (HSl4.out.frame fun q hq _ => ?_).mono (fun q hq _ => hne q hq)
      rw [kAA (by have := (hne q hq).2; show W.heap.size + 1 ≠ q; omega), kAA (by have := (hne q hq).2; show W.heap.size + 1 ≠ q; omega)])
     have HBB : Hid (Below (w.heap.size + 3) W ((w4.setCell ⟨W.heap.size + 1, 0, none⟩ (.int .i64 (x.const + k * y.const))).setCell ⟨W.heap.size + 1, 1, none⟩ (.slice a4 n c4))) := hJ (((HB4.out.mono (by have := HW0.out; omega)).setCell (by have := HW0.out; show _ ≤ W.heap.size + 1; omega) _).setCell (by have := HW0.out; show _ ≤ W.heap.size + 1; omega) _)
     have hg : w.heap.size + 3 ≤ W.heap.size + 1 := by have := HW0.out; omega
     clear u0 u1 u2 u3 HZ1
     generalize ((w4.setCell ⟨W.heap.size + 1, 0, none⟩ (.int .i64 (x.const + k * y.const))).setCell ⟨W.heap.size + 1, 1, none⟩ (.slice a4 n c4)) = WX at *
     generalize W.heap.size + 1 = g at *)
  | (have HX : Hid (Bx ((w4.setCell ⟨W.heap.size, 0, none⟩ (.int .i64 (x.const + k * y.const))).setCell ⟨W.heap.size, 1, none⟩ (.slice a4 n c4)) W.heap.size 65 [.int .i64 (x.const + k * y.const), .slice a4 n c4]) := hJ ((HZ0.set 0 _).set 1 _)
     have HSl : Hid (Sl kBP (fun q => w.heap.size + 3 ≤ q ∧ q ≠ W.heap.size) ((w4.setCell ⟨W.heap.size, 0, none⟩ (.int .i64 (x.const + k * y.const))).setCell ⟨W.heap.size, 1, none⟩ (.slice a4 n c4)) a4 n c4 x.terms) := hJ (by
      have hne : ∀ q, At a4 q → w.heap.size + 3 ≤ q ∧ q ≠ W.heap.size := fun q hq => by
       have e1 := HOwn4.out.base_le q (kFZ hq); have e2 := HW0.out
       refine ⟨by omega, fun e => ?_⟩
       rcases HK4.out.own with r | r
       · rw [kFZ hq] at r
         simp [Value.ownBlock] at r
         omega
       · rw [kFZ hq] at r
         simp at r
         omega
      refine (HSl4.out.frame fun q hq _ => ?_).mono (fun q hq _ => hne q hq)
      rw [kAA (by have := (hne q hq).2; show W.heap.size ≠ q; omega), kAA (by have := (hne q hq).2; show W.heap.size ≠ q; omega)])
     have HBB : Hid (Below (w.heap.size + 3) W ((w4.setCell ⟨W.heap.size, 0, none⟩ (.int .i64 (x.const + k * y.const))).setCell ⟨W.heap.size, 1, none⟩ (.slice a4 n c4))) := hJ (((HB4.out.mono (by have := HW0.out; omega)).setCell (by have := HW0.out; show _ ≤ W.heap.size; omega) _).setCell (by have := HW0.out; show _ ≤ W.heap.size; omega) _)
     have hg : w.heap.size + 3 ≤ W.heap.size := by have := HW0.out; omega
     clear u0 u1 u2 u3 HZ0
     generalize ((w4.setCell ⟨W.heap.size, 0, none⟩ (.int .i64 (x.const + k * y.const))).setCell ⟨W.heap.size, 1, none⟩ (.slice a4 n c4)) = WX at *
     generalize W.heap.size = g at *)
  | (have HX : Hid (Bx (w4.alloc (.cells #[.int .i64 (x.const + k * y.const), .slice a4 n c4] 65)) w4.heap.size 65 [.int .i64 (x.const + k * y.const), .slice a4 n c4]) := hJ (Bx.fresh _ _ _)
     have HSl : Hid (Sl kBP (fun q => w.heap.size + 3 ≤ q ∧ q ≠ w4.heap.size) (w4.alloc (.cells #[.int .i64 (x.const + k * y.const), .slice a4 n c4] 65)) a4 n c4 x.terms) := hJ ((HSl4.out.below ((Below.refl _ _).alloc (Nat.le_refl _) _)).mono (fun q hq _ => by
      have e1 := HOwn4.out.block (kFZ hq); have e2 := HW0.out
      omega))
     have HBB : Hid (Below (w.heap.size + 3) W (w4.alloc (.cells #[.int .i64 (x.const + k * y.const), .slice a4 n c4] 65))) := hJ ((HB4.out.mono (by have := HW0.out; omega)).alloc (by have := HW0.out; have := HB4.out.size; omega) _)
     have hg : w.heap.size + 3 ≤ w4.heap.size := by have := HW0.out; have := HB4.out.size; omega
     generalize (w4.alloc (.cells #[.int .i64 (x.const + k * y.const), .slice a4 n c4] 65)) = WX at *
     generalize w4.heap.size = g at *)
 all_goals
  clear HSl4 HOwn4 HK4 HB4 e00 e01 e10 l0 l1
  go_wp2_with fail
  go_loopw [8] (fun i wr => ∃ (j : Nat) (v : Value), j ≤ m ∧ i = .int .i64 j ∧ Hid (Bx wr g 65 [.int .i64 (x.const + k * y.const), v]) ∧ Hid (SlV kBP (fun q => w.heap.size + 3 ≤ q ∧ q ≠ g) wr v (kBK x.terms (y.terms.take j) k)) ∧ Hid (Below (w.heap.size + 3) W wr)) (fun i _ => m - (intOf i).toNat)
  case atStart => exact ⟨0, _, Nat.zero_le _, rfl, HX, hJ ⟨a4, c4, by show _ = Value.slice a4 x.terms.length c4; rw [HNX.out], by show Sl kBP _ _ a4 x.terms.length c4 x.terms; rw [HNX.out]; exact HSl.out⟩, HBB⟩
  case round =>
   obtain ⟨j, v, hj, rfl, HX, HV, HB⟩ := hrel
   have f11 : wr.cell? ⟨w.heap.size + 1, 1, none⟩ = some (.slice ay m cy) := (HB.out.cell (by show w.heap.size + 1 < _; omega)).trans xb1
   have hgs := HX.out.lt; have z0 := HX.out.cell 0 _ rfl; have z1 := HX.out.cell 1 _ rfl
   by_cases hlt : j < m
   · obtain ⟨b, off, rfl, hbW, _⟩ := HSY.out.form j hlt
     have HBw := hJ (B0.out.trans (HB.out.mono (by omega)))
     obtain ⟨c0, c1⟩ := (HSY.out.below HBw.out).coef j hlt
     have HKl : Hid (j < y.terms.length) := hJ (by rw [HNY.out]; exact hlt)
     have HStep := hJ (timesT_take (l := x.terms) (k := k) HKl.out); have hc1 := mul_bd HK.out (HY.out _ (kAI HKl.out))
     have hTl : (kBK x.terms (y.terms.take j) k).length ≤ 10000 := by
      have := times_len (y.terms.take j) k x.terms HOK.out.srt
      rw [List.length_take, HNX.out] at this
      omega
     have hTb : ∀ u ∈ kBK x.terms (y.terms.take j) k, -9223372036854775808 ≤ u.c + k * (y.terms.getD j default).c ∧ u.c + k * (y.terms.getD j default).c ≤ 9223372036854775807 := fun u hu => by
      have h1 := times_bd (y.terms.take j) k HK.out (fun t ht => HY.out t (List.mem_of_mem_take ht)) x.terms ((n0 : Int) * 12000000000000) (by omega) HOK.out.srt HOK.out.bd u hu
      rw [List.length_take] at h1
      omega
     obtain ⟨av, cv, rfl, hsv⟩ := HV.out
     have HC : Hid (∀ W', Below wr.heap.size wr W' → Calls Tryz.prog 166 #[.agg #[.int .i64 (x.const + k * y.const), .slice av (kBK x.terms (y.terms.take j) k).length cv], .string (y.terms.getD j default).v, .int .i64 (k * (y.terms.getD j default).c)] W' fun e w' => (∃ ds, e = .returned (.agg ds.toArray) ∧ RLin.rd (fun k => W'.heap.size ≤ k) w' ds ⟨x.const + k * y.const, plus (kBK x.terms (y.terms.take j) k) (y.terms.getD j default).v (k * (y.terms.getD j default).c)⟩) ∧ Below W'.heap.size W' w') :=
      hJ (fun W' hW' => ref04_Plus (x := ⟨x.const + k * y.const, kBK x.terms (y.terms.take j) k⟩) (cs := [.int .i64 (x.const + k * y.const), .slice av (kBK x.terms (y.terms.take j) k).length cv]) ⟨_, rfl, av, cv, rfl, hsv.below hW'⟩ _ _ hTl hTb)
     have hlen1 : (kBK x.terms (y.terms.take j) k).length ≤ 9223372036854775807 := by omega
     have hp1 : IntKind.i64.wrap (k * (y.terms.getD j default).c) = k * (y.terms.getD j default).c := by rw [IntKind.wrap_i64]; omega
     have hp2 : -9223372036854775808 ≤ k * (y.terms.getD j default).c := by omega
     have hp3 : k * (y.terms.getD j default).c ≤ 9223372036854775807 := by omega
     clear hTb hsv HV hTl hc1
     generalize (kBK x.terms (y.terms.take j) k).length = L at *
     generalize kBK x.terms (y.terms.take j) k = tl at *
     generalize y.terms.getD j default = t at *
     have hgb : g ≠ b := by omega
     go_wp2_with fail
     refine wp_region_held_drew (S := (fun w' => w'.cell? ⟨w.heap.size + 1, 1, none⟩ = some (.slice (some ⟨b, off, none⟩) m cy) ∧ w'.cell? ⟨b, off + j * 2, none⟩ = some (.string t.v) ∧ w'.cell? ⟨b, off + j * 2 + 1, none⟩ = some (.int .i64 t.c))) (by kernel_rfl) ⟨f11, c0, c1⟩ (fun hHeld => ?_)
     refine wpAnyH_take (i := 1) (v := ?_) rfl (by kernel_rfl) (by kernel_rfl) (by kernel_rfl) (fun _ _ _ h => h) (Or.inl ⟨by rfl, ?_⟩) (by assumption) ?_
     rotate_left
     · (intro w hSw; (try dsimp only at hSw); go_simp; first | done | (with_reducible rfl))
     try simp only [Act.put, List.setIfInBounds_toArray, List.set_cons_zero, List.set_cons_succ]
     refine wpAnyH_take (i := 2) (v := ?_) rfl (by kernel_rfl) (by kernel_rfl) (by kernel_rfl) (fun _ _ _ h => h) (Or.inl ⟨by rfl, ?_⟩) (by assumption) ?_
     rotate_left
     · (intro w hSw; (try dsimp only at hSw); go_simp; first | done | (with_reducible rfl))
     try simp only [Act.put, List.setIfInBounds_toArray, List.set_cons_zero, List.set_cons_succ]
     refine wpAnyH_take (i := 3) (v := ?_) rfl (by kernel_rfl) (by kernel_rfl) (by kernel_rfl) (fun _ _ _ h => h) (Or.inl ⟨by rfl, ?_⟩) (by assumption) ?_
     rotate_left
     · (intro w hSw; (try dsimp only at hSw); go_simp; first | done | (with_reducible rfl))
     try simp only [Act.put, List.setIfInBounds_toArray, List.set_cons_zero, List.set_cons_succ]
     refine wpAnyH_take (i := 4) (v := ?_) rfl (by kernel_rfl) (by kernel_rfl) (by kernel_rfl) (fun _ _ _ h => h) (Or.inl ⟨by rfl, ?_⟩) (by assumption) ?_
     rotate_left
     · (intro w hSw; (try dsimp only at hSw); go_simp; first | done | (with_reducible rfl))
     try simp only [Act.put, List.setIfInBounds_toArray, List.set_cons_zero, List.set_cons_succ]
     refine wpAnyH_take (i := 5) (v := ?_) rfl (by kernel_rfl) (by kernel_rfl) (by kernel_rfl) (fun _ _ _ h => h) (Or.inl ⟨by rfl, ?_⟩) (by assumption) ?_
     rotate_left
     · (intro w hSw; (try dsimp only at hSw); go_simp; first | done | (with_reducible rfl))
     try simp only [Act.put, List.setIfInBounds_toArray, List.set_cons_zero, List.set_cons_succ]
     refine wpAnyH_take (i := 6) (v := ?_) rfl (by kernel_rfl) (by kernel_rfl) (by kernel_rfl) (fun _ _ _ h => h) (Or.inl ⟨by rfl, ?_⟩) (by assumption) ?_
     rotate_left
     · (intro w hSw; (try dsimp only at hSw); go_simp; first | done | (with_reducible rfl))
     try simp only [Act.put, List.setIfInBounds_toArray, List.set_cons_zero, List.set_cons_succ]
     refine wpAnyH_take (i := 7) (v := ?_) rfl (by kernel_rfl) (by kernel_rfl) (by kernel_rfl) (fun _ _ _ h => h) (Or.inl ⟨by rfl, ?_⟩) (by assumption) ?_
     rotate_left
     · (intro w hSw; (try dsimp only at hSw); go_simp; first | done | (with_reducible rfl))
     try simp only [Act.put, List.setIfInBounds_toArray, List.set_cons_zero, List.set_cons_succ]
     refine wpAnyH_take (i := 8) (v := ?_) rfl (by kernel_rfl) (by kernel_rfl) (by kernel_rfl) (fun _ _ _ h => h) (Or.inl ⟨by rfl, ?_⟩) (by assumption) ?_
     rotate_left
     · (intro w hSw; (try dsimp only at hSw); go_simp; first | done | (with_reducible rfl))
     try simp only [Act.put, List.setIfInBounds_toArray, List.set_cons_zero, List.set_cons_succ]
     refine wpAnyH_take (i := 9) (v := ?_) rfl (by kernel_rfl) (by kernel_rfl) (by kernel_rfl) (fun _ _ _ h => h) (Or.inl ⟨by rfl, ?_⟩) (by assumption) ?_
     rotate_left
     · (intro w hSw; (try dsimp only at hSw); go_simp; first | done | (with_reducible rfl))
     try simp only [Act.put, List.setIfInBounds_toArray, List.set_cons_zero, List.set_cons_succ]
     refine wpAnyH_take (i := 10) (v := ?_) rfl (by kernel_rfl) (by kernel_rfl) (by kernel_rfl) (fun _ _ _ h => h) (Or.inl ⟨by rfl, ?_⟩) (by assumption) ?_
     rotate_left
     · (intro w hSw; (try dsimp only at hSw); go_simp; first | done | (with_reducible rfl))
     try simp only [Act.put, List.setIfInBounds_toArray, List.set_cons_zero, List.set_cons_succ]
     refine wpAnyH_take (i := 11) (v := ?_) rfl (by kernel_rfl) (by kernel_rfl) (by kernel_rfl) (fun _ _ _ h => h) (Or.inl ⟨by rfl, ?_⟩) (by assumption) ?_
     rotate_left
     · (intro w hSw; (try dsimp only at hSw); go_simp; first | done | (with_reducible rfl))
     try simp only [Act.put, List.setIfInBounds_toArray, List.set_cons_zero, List.set_cons_succ]
     refine wpAnyH_take (i := 12) (v := ?_) rfl (by kernel_rfl) (by kernel_rfl) (by kernel_rfl) (fun _ _ _ h => h) (Or.inl ⟨by rfl, ?_⟩) (by assumption) ?_
     rotate_left
     · (intro w hSw; (try dsimp only at hSw); go_simp; first | done | (with_reducible rfl))
     try simp only [Act.put, List.setIfInBounds_toArray, List.set_cons_zero, List.set_cons_succ]
     refine wpAnyH_take (i := 13) (v := ?_) rfl (by kernel_rfl) (by kernel_rfl) (by kernel_rfl) (fun _ _ _ h => h) (Or.inl ⟨by rfl, ?_⟩) (by assumption) ?_
     rotate_left
     · (intro w hSw; (try dsimp only at hSw); go_simp; first | done | (with_reducible rfl))
     try simp only [Act.put, List.setIfInBounds_toArray, List.set_cons_zero, List.set_cons_succ]
     refine wpAnyH_take (i := 14) (v := ?_) rfl (by kernel_rfl) (by kernel_rfl) (by kernel_rfl) (fun _ _ _ h => h) (Or.inl ⟨by rfl, ?_⟩) (by assumption) ?_
     rotate_left
     · (intro w hSw; (try dsimp only at hSw); go_simp; first | done | (with_reducible rfl))
     try simp only [Act.put, List.setIfInBounds_toArray, List.set_cons_zero, List.set_cons_succ]
     refine wpAnyH_ready (rs := [0]) (by kernel_rfl) (by simp) ?_
     refine AllReadyH.cons rfl (fun K hK => ?_) AllReadyH.nil
     go_simp
     refine hK.out _ _ ⟨f11, c0, c1⟩ (fun hHeld => ?_)
     clear hK K
     try simp only [Act.put, List.setIfInBounds_toArray, List.set_cons_zero, List.set_cons_succ]
     refine wpAnyH_ready (rs := [15]) (by kernel_rfl) (by simp) ?_
     refine AllReadyH.cons rfl (fun K hK => ?_) AllReadyH.nil
     go_simp
     refine (HC.out _ (by first | exact Below.refl _ _ | exact (Below.refl _ _).drew)).mono ?_
     rintro e w5 ⟨⟨ds, rfl, hr5⟩, hb5⟩
     obtain ⟨t5, rfl, a5, c5, rfl, hs5⟩ := hr5
     have hb5 : Below wr.heap.size wr w5 := (Below.refl _ _).drew.trans hb5
     have HX5 := hJ (HX.out.below hb5 hgs); have v0 := HX5.out.cell 0 _ rfl; have v1 := HX5.out.cell 1 _ rfl; have v2 := HX5.out.fz 0; have v3 := HX5.out.fz 1
     have p0 : w5.cell? ⟨w.heap.size + 1, 1, none⟩ = some (.slice (some ⟨b, off, none⟩) m cy) := (hb5.cell (by show w.heap.size + 1 < wr.heap.size; omega)).trans f11
     have p1 : w5.cell? ⟨b, off + j * 2, none⟩ = some (.string t.v) := (hb5.cell (by show b < wr.heap.size; omega)).trans c0
     have p2 : w5.cell? ⟨b, off + j * 2 + 1, none⟩ = some (.int .i64 t.c) := (hb5.cell (by show b < wr.heap.size; omega)).trans c1
     refine hK.out _ _ ⟨p0, p1, p2⟩ (fun hHeld => ?_)
     clear hK K
     try simp only [Act.put, List.setIfInBounds_toArray, List.set_cons_zero, List.set_cons_succ]
     refine wpAnyH_ready (rs := [16]) (by kernel_rfl) (by simp) ?_
     refine AllReadyH.cons rfl (fun K hK => ?_) AllReadyH.nil
     go_simp
     refine hK.out _ _ ⟨(World.cell?_setCell_far _ _ _ _ (by simp only [ne_eq]; omega)).trans ((World.cell?_setCell_far _ _ _ _ (by simp only [ne_eq]; omega)).trans p0), (World.cell?_setCell_far _ _ _ _ (by simp only [ne_eq]; omega)).trans ((World.cell?_setCell_far _ _ _ _ (by simp only [ne_eq]; omega)).trans p1), (World.cell?_setCell_far _ _ _ _ (by simp only [ne_eq]; omega)).trans ((World.cell?_setCell_far _ _ _ _ (by simp only [ne_eq]; omega)).trans p2)⟩ (fun hHeld => ?_)
     clear hK K
     try simp only [Act.put, List.setIfInBounds_toArray, List.set_cons_zero, List.set_cons_succ]
     refine wpAnyH_done (by kernel_rfl) ?_ _
     have HVN : Hid (SlV kBP (fun q => w.heap.size + 3 ≤ q ∧ q ≠ g) ((w5.setCell ⟨g, 0, none⟩ (.int .i64 (x.const + k * y.const))).setCell ⟨g, 1, none⟩ (.slice a5 (plus tl t.v (k * t.c)).length c5)) (.slice a5 (plus tl t.v (k * t.c)).length c5) (kBK x.terms (y.terms.take (j + 1)) k)) := hJ (by
      rw [HStep.out]
      refine ⟨a5, c5, rfl, (hs5.frame fun q hq _ => ?_).mono (fun q hq _ => ?_)⟩
      · have hq : wr.heap.size ≤ q := hq
        rw [kAA (by show g ≠ q; omega), kAA (by show g ≠ q; omega)]
      · have hq : wr.heap.size ≤ q := hq
        exact ⟨by omega, by omega⟩)
     go_wp2_with fail
     go_roundw
     case rel => exact ⟨j + 1, _, by omega, by go_num, hJ ((HX5.out.set 0 _).set 1 _), HVN, hJ (((HB.out.trans (hb5.mono (by omega))).setCell (by show _ ≤ g; omega) _).setCell (by show _ ≤ g; omega) _)⟩
     case measure => simp [intOf]; omega
   · obtain rfl : j = m := by omega
     have HEnd : Hid (y.terms.take j = y.terms) := hJ (List.take_of_length_le (by rw [HNY.out]; exact Nat.le_refl _))
     obtain ⟨av, cv, rfl, hsv⟩ := HV.out; have HSv := hJ hsv
     have HX6 := hJ (HB6.out.below HB.out (by omega))
     have f60 := HX6.out.fz 0; have f61 := HX6.out.fz 1; have r0 := HX6.out.cell 0 _ rfl; have r1 := HX6.out.cell 1 _ rfl
     have HL : Hid ((kBK x.terms (y.terms.take j) k).length = (kBK x.terms (y.terms.take j) k).length) := hJ rfl
     clear hsv HV
     generalize hLL : (kBK x.terms (y.terms.take j) k).length = L at *
     have HX60 := hJ ((HX6.out.set 0 (.int .i64 (x.const + k * y.const))).set 1 (.slice av L cv)); have s0 := HX60.out.cell 0 _ rfl; have s1 := HX60.out.cell 1 _ rfl; have HLL := hJ hLL; clear hLL
     go_wp2_with fail
     refine bodyPost_ret (v := .agg #[.int .i64 (x.const + k * y.const), .slice av L cv]) (by simp [results, results123, go_sem, s0, s1]) rfl ?_
     refine ⟨⟨[.int .i64 (x.const + k * y.const), .slice av L cv], rfl, ⟨_, rfl, av, cv, by rw [← HLL.out, HEnd.out]; rfl, ?_⟩⟩, ?_⟩
     · have h1 := HSv.out
       rw [← HLL.out, HEnd.out] at h1
       refine (h1.frame fun q hq _ => ?_).mono (fun q hq _ => by omega)
       rw [kAA (by show w.heap.size + 1 + 1 ≠ q; omega), kAA (by show w.heap.size + 1 + 1 ≠ q; omega)]
     · exact B0.out.trans (((HB.out.mono (by omega)).setCell (by show _ ≤ w.heap.size + 1 + 1; omega) _).setCell (by show _ ≤ w.heap.size + 1 + 1; omega) _)
theorem timesT_coef {l x : List Coef} {k : Int} {i : Nat} (h : i < x.length) (hs : Srt l) (v : Str) : kAQ (kBK l (x.take (i + 1)) k) v = if seq (x.getD i default).v v then kAQ (kBK l (x.take i) k) (x.getD i default).v + k * (x.getD i default).c else kAQ (kBK l (x.take i) k) v := by
 rw [timesT_take h, plus_coef (times_srt _ _ _ hs)]
 split
 · next q => rw [(kA7 _ _).1 q]
 · omega
theorem coefAt_bd {n : Int} (hn : 0 ≤ n) : ∀ {l : List Coef}, Bd n l → ∀ v, -n ≤ kAQ l v ∧ kAQ l v ≤ n
 | [], _, v => by unfold kAQ; omega
 | t :: l, h, v => by
   unfold kAQ
   split
   · exact h t (List.mem_cons_self ..)
   · exact coefAt_bd hn (fun u hu => h u (List.mem_cons_of_mem _ hu)) v
theorem sum_add {S : Blk} {y : Lin} {cs : List Value} {w : World} (h : RLin.rd S w cs y) (hy : kAD y = true) (p bm n : Nat) (D : DataW Unit) (x : Lin) {n0 : Nat} (hn0 : n0 ≤ 12) (hok : SumOk n0 x) (hBx : Bx w p 167 [.int .i64 x.const, .map (some bm)]) (hM : MapF w bm n D (kAQ x.terms)) (hn : n ≤ 1000) (k : Int) (hk : -1000000 ≤ k ∧ k ≤ 1000000) (hpS : ∀ q, S q → q ≠ p ∧ q ≠ bm) (hpb : p ≠ bm) :
 Calls Tryz.prog 149 #[.pointer (some ⟨p, 0, none⟩), .agg cs.toArray, .int .i64 k] w fun e w' => e = .returned (.tuple #[]) ∧ Bx w' p 167 [.int .i64 (kB8 x y k).const, .map (some bm)] ∧ (∃ n' D', n' ≤ n + 12 ∧ MapF w' bm n' D' (kAQ (kB8 x y k).terms)) ∧ K2 p bm w w' := by
 obtain ⟨_, rfl, ay, cy, rfl, hsy⟩ := h; obtain ⟨q1, q2, q3, q4, q5, q6⟩ := kBF hy; have hm := mul_bd hk q5; have hlo := hok.lo; have hhi := hok.hi; have HOK := hJ hok; have HY := hJ q3; have HYN := hJ q4; have HK := hJ hk; have HSY := hJ hsy; have HPS := hJ hpS; have hmy := hsy.small; clear hsy q1 q2 q3 q4 hok hy hpS
 generalize hny : y.terms.length = m at *
 have HNY := hJ hny
 have hmul1 : -9223372036854775808 ≤ k * y.const := by omega
 have hmul2 : k * y.const ≤ 9223372036854775807 := by omega
 have hadd1 : -9223372036854775808 ≤ x.const + k * y.const := by omega
 have hadd2 : x.const + k * y.const ≤ 9223372036854775807 := by omega
 have hw1 : IntKind.i64.wrap (k * y.const) = k * y.const := by rw [IntKind.wrap_i64]; omega
 have hw2 : IntKind.i64.wrap (x.const + k * y.const) = x.const + k * y.const := by rw [IntKind.wrap_i64]; omega
 clear hny; obtain ⟨B0, ya, hW0⟩ := box1 w 65 [.int .i64 y.const, .slice ay m cy]; have xa0 := box0 ya 0 _ rfl; have xa1 := box0 ya 1 _ rfl
 have bka : Bx _ _ _ _ := ya
 clear ya; have hp := hBx.lt; have hbm := hM.lt; have HX := hJ (hBx.below B0.out hBx.lt); have HM := hJ (hM.kept B0.out); clear bka hBx hM
 go_enter func149, ntmps149
 go_wp2_with fail
 generalize (w.alloc (.cells #[.int .i64 y.const, .slice ay m cy] 65)) = W at *
 have p0 := HX.out.cell 0 _ rfl; have p1 := HX.out.cell 1 _ rfl; have f0 := HX.out.fz 0
 have hne : p ≠ w.heap.size := by omega
 go_region
 have HX1 : Hid (Bx (W.setCell ⟨p, 0, none⟩ (.int .i64 (x.const + k * y.const))).drew p 167 [.int .i64 (x.const + k * y.const), .map (some bm)]) := hJ (HX.out.set 0 _).drew
 have HM1 : Hid (MapF (W.setCell ⟨p, 0, none⟩ (.int .i64 (x.const + k * y.const))).drew bm n D (kAQ x.terms)) := hJ ((HM.out.setCell (a := ⟨p, 0, none⟩) hpb _).kept (Below.refl _ _).drew)
 have HK1 : Hid (K2 p bm W (W.setCell ⟨p, 0, none⟩ (.int .i64 (x.const + k * y.const))).drew) := hJ ((K2.set W 0 _).trans (K2.of_below (Below.refl _ _).drew))
 have x1 : (W.setCell ⟨p, 0, none⟩ (.int .i64 (x.const + k * y.const))).cell? ⟨w.heap.size, 1, none⟩ = some (.slice ay m cy) := (World.cell?_setCell_far _ _ _ _ (by simp only [ne_eq]; omega)).trans xa1
 have x1d : (W.setCell ⟨p, 0, none⟩ (.int .i64 (x.const + k * y.const))).drew.cell? ⟨w.heap.size, 1, none⟩ = some (.slice ay m cy) := x1
 clear xa0 p0 p1 f0
 go_wp2_with fail
 generalize (W.setCell ⟨p, 0, none⟩ (.int .i64 (x.const + k * y.const))).drew = W1 at *
 clear x1 x1d
 go_loopw [22] (fun i wr => ∃ j : Nat, j ≤ m ∧ i = .int .i64 j ∧ Hid (Bx wr p 167 [.int .i64 (x.const + k * y.const), .map (some bm)]) ∧ Hid (∃ D', MapF wr bm (n + j) D' (kAQ (kBK x.terms (y.terms.take j) k))) ∧ Hid (K2 p bm W wr)) (fun i _ => m - (intOf i).toNat)
 case atStart => exact ⟨0, Nat.zero_le _, rfl, HX1, hJ ⟨D, HM1.out⟩, HK1⟩
 case round =>
  obtain ⟨j, hj, rfl, HX, HMM, HK2⟩ := hrel; obtain ⟨D', hM'⟩ := HMM.out; have HM := hJ hM'; clear hM' HMM
  by_cases hlt : j < m
  · obtain ⟨b, off, rfl, hbW, hSb⟩ := HSY.out.form j hlt
    have hbp := HPS.out b hSb; obtain ⟨c0, c1⟩ := (HSY.out.below B0.out).coef j hlt
    have hbl : b < W.heap.size := by omega
    have e0 : wr.cell? ⟨b, off + j * 2, none⟩ = some (.string (y.terms.getD j default).v) := kCB c0 (fun _ => HK2.out.block b hbl hbp.1 hbp.2)
    have e1 : wr.cell? ⟨b, off + j * 2 + 1, none⟩ = some (.int .i64 (y.terms.getD j default).c) := kCB c1 (fun _ => HK2.out.block b hbl hbp.1 hbp.2)
    have HKl : Hid (j < y.terms.length) := hJ (by rw [HNY.out]; exact hlt)
    have HStep := hJ (fun v => timesT_coef (l := x.terms) (k := k) HKl.out HOK.out.srt v)
    have hct := HY.out _ (kAI HKl.out); have hc1 := mul_bd HK.out hct
    have hnm : (y.terms.getD j default).v.size ≤ maxLen := Nat.le_trans (kDM (HYN.out _ (kAI HKl.out))) (by decide)
    have hTb : -9223372036854775808 ≤ kAQ (kBK x.terms (y.terms.take j) k) (y.terms.getD j default).v + k * (y.terms.getD j default).c ∧ kAQ (kBK x.terms (y.terms.take j) k) (y.terms.getD j default).v + k * (y.terms.getD j default).c ≤ 9223372036854775807 := by
     have h1 := coefAt_bd (by omega) (times_bd (y.terms.take j) k HK.out (fun t ht => HY.out t (List.mem_of_mem_take ht)) x.terms ((n0 : Int) * 12000000000000) (by omega) HOK.out.srt HOK.out.bd) (y.terms.getD j default).v
     rw [List.length_take] at h1
     omega
    have hv1 : IntKind.i64.wrap (k * (y.terms.getD j default).c) = k * (y.terms.getD j default).c := by rw [IntKind.wrap_i64]; omega
    have hv2 : IntKind.i64.wrap (kAQ (kBK x.terms (y.terms.take j) k) (y.terms.getD j default).v + k * (y.terms.getD j default).c) = kAQ (kBK x.terms (y.terms.take j) k) (y.terms.getD j default).v + k * (y.terms.getD j default).c := by rw [IntKind.wrap_i64]; omega
    clear c0 c1 hct hc1
    generalize kBK x.terms (y.terms.take j) k = tl at *
    generalize y.terms.getD j default = t at *
    have p1 := HX.out.cell 1 _ rfl; have hpw := HX.out.lt
    go_wp2_with fail
    have HMx : Hid (MapF (wr.alloc (.cells #[.string t.v, .int .i64 t.c] 62)).drew bm (n + j) D' (kAQ tl)) := hJ ((HM.out.kept ((Below.refl _ _).alloc (Nat.le_refl _) _)).kept (Below.refl _ _).drew)
    obtain ⟨w6, D6, hr6, hM6, hg6⟩ := HMx.out.put (by unfold maxLen; omega) t.v hnm (kAQ tl t.v + k * t.c) hTb
    have HM6 := hJ hM6; have hl6 := HMx.out.look t.v hnm; have HG6 := hJ (K2.of_grown (p := p) hg6)
    have hX0 : Bx (wr.alloc (.cells #[.string t.v, .int .i64 t.c] 62)).drew p 167 [.int .i64 (x.const + k * y.const), .map (some bm)] := (HX.out.alloc _).drew
    have HX6 : Hid (Bx w6 p 167 [.int .i64 (x.const + k * y.const), .map (some bm)]) := hJ ((hg6.block p hX0.lt (fun e => hpb (by cases e; rfl))).trans hX0)
    have hT0 : Bx (wr.alloc (.cells #[.string t.v, .int .i64 t.c] 62)).drew wr.heap.size 62 [.string t.v, .int .i64 t.c] := (Bx.fresh _ _ _).drew
    have hbmw := HM.out.lt
    have HT6 : Hid (Bx w6 wr.heap.size 62 [.string t.v, .int .i64 t.c]) := hJ ((hg6.block _ hT0.lt (fun e => by cases e; omega)).trans hT0)
    have s1 := HX6.out.cell 1 _ rfl; have s2 := HT6.out.cell 0 _ rfl; have s3 := HT6.out.cell 1 _ rfl; clear hM6 hg6 hX0 hT0 e0 e1
    go_region_held3 (fun w' => w'.cell? ⟨p, 1, none⟩ = some (.map (some bm)) ∧ w'.cell? ⟨wr.heap.size, 0, none⟩ = some (.string t.v) ∧ w'.cell? ⟨wr.heap.size, 1, none⟩ = some (.int .i64 t.c)) (first | exact ⟨s1, s2, s3⟩ | go_keep) (fail)
    have HKN : Hid (K2 p bm W w6) := hJ (HK2.out.trans ((K2.of_below ((Below.refl _ _).alloc (Nat.le_refl _) (.cells #[.string t.v, .int .i64 t.c] 62))).trans ((K2.of_below (Below.refl _ _).drew).trans HG6.out)))
    have HMN : Hid (∃ D', MapF w6 bm (n + (j + 1)) D' (kAQ (kBK x.terms (y.terms.take (j + 1)) k))) := hJ ⟨D6, HM6.out.own, fun s => by rw [HStep.out s]; exact HM6.out.at_ s⟩
    go_wp2_with fail
    go_roundw
    case rel => exact ⟨j + 1, by omega, by go_num, HX6, HMN, HKN⟩
    case measure => simp [intOf]; omega
  · obtain rfl : j = m := by omega
    have HEnd : Hid (y.terms.take j = y.terms) := hJ (List.take_of_length_le (by rw [HNY.out]; exact Nat.le_refl _))
    go_wp2_with fail
    go_end0
    exact ⟨rfl, HX.out, ⟨n + j, D', by omega, by have := HM.out; rw [HEnd.out] at this; exact this⟩, (K2.of_below B0.out).trans HK2.out⟩
open Go.RowKit Go.Maps
theorem bl_lt : ∀ x y : List UInt8, Op.bytesLess x y = true ↔ x < y
 | [], [] => by simp [Op.bytesLess]
 | [], _ :: _ => by simp [Op.bytesLess]
 | _ :: _, [] => by simp [Op.bytesLess]
 | a :: x, b :: y => by
   rw [List.cons_lt_cons_iff, ← bl_lt x y]
   simp [Op.bytesLess]
def mkS (b : List UInt8) : Str := ⟨b.toArray⟩
theorem mkS_list (b : List UInt8) : (mkS b).toList = b := by rw [ByteArray.toList_eq]; rfl
theorem mkS_of (s : Str) : mkS s.data.toList = s := rfl
theorem slt_mkS (a b : List UInt8) : slt (mkS a) (mkS b) = true ↔ a < b := by
 unfold slt
 rw [mkS_list, mkS_list]
 exact bl_lt a b
def kF3 (f : Str → Int) (b : List UInt8) : Coef := ⟨mkS b, f (mkS b)⟩
theorem coefAt_terms (f : Str → Int) (v : Str) : ∀ l : List (List UInt8), kAQ (l.map (kF3 f)) v = if v.data.toList ∈ l then f v else 0
 | [] => by simp [kAQ]
 | b :: l => by
   rw [List.map_cons]
   unfold kAQ
   show (if seq (mkS b) v then f (mkS b) else kAQ (l.map (kF3 f)) v) = _
   by_cases h : seq (mkS b) v = true
   · have e := (kA7 _ _).1 h
     rw [if_pos h, e, if_pos]
     rw [← e]; exact List.mem_cons_self ..
   · rw [if_neg h, coefAt_terms f v l]
     have hne : v.data.toList ≠ b := fun e => h ((kA7 _ _).2 (by rw [← e]; rfl))
     by_cases hm : v.data.toList ∈ l
     · rw [if_pos hm, if_pos (List.mem_cons_of_mem _ hm)]
     · rw [if_neg hm, if_neg (fun q => by rcases List.mem_cons.1 q with q | q; exact hne q; exact hm q)]
theorem sorted_strict {ss : List (List UInt8)} (h : ss.Nodup) : (ss.mergeSort leB).Pairwise (fun a b => a < b) := by
 have tr : ∀ a b c : List UInt8, leB a b = true → leB b c = true → leB a c = true := fun a b c h1 h2 => by simp only [leB, decide_eq_true_eq] at *; exact List.le_trans h1 h2
 have tot : ∀ a b : List UInt8, (leB a b || leB b a) = true := fun a b => by simp only [leB, Bool.or_eq_true, decide_eq_true_eq]; exact List.le_total a b
 have h1 := List.pairwise_mergeSort tr tot ss
 have h2 : (ss.mergeSort leB).Nodup := (List.mergeSort_perm ss leB).nodup_iff.2 h
 refine List.Pairwise.imp₂ (fun a b hab hne => ?_) h1 h2
 simp only [leB, decide_eq_true_eq] at hab
 by_cases q : a < b
 · exact q
 · exact absurd (List.le_antisymm hab (List.not_lt.1 q)) hne
theorem terms_of {x : Lin} (hs : Srt x.terms) (hn : Nz x.terms) {ss : List (List UInt8)} (hnd : ss.Nodup) (hm : ∀ b, b ∈ ss ↔ kAQ x.terms (mkS b) ≠ 0) : (ss.mergeSort leB).map (kF3 (kAQ x.terms)) = x.terms := by
 have hmem : ∀ b, b ∈ ss.mergeSort leB ↔ b ∈ ss := fun b => (List.mergeSort_perm ss leB).mem_iff
 refine srt_ext _ _ ?_ hs ?_ hn (fun v => ?_)
 · refine List.pairwise_map.2 ((sorted_strict hnd).imp fun {a b} h => ?_)
   exact (slt_mkS a b).2 h
 · intro t ht
   obtain ⟨b, hb, rfl⟩ := List.mem_map.1 ht
   exact (hm b).1 ((hmem b).1 hb)
 · rw [coefAt_terms]
   by_cases h : v.data.toList ∈ ss.mergeSort leB
   · rw [if_pos h]
   · rw [if_neg h]
     by_cases hz : kAQ x.terms v = 0
     · exact hz.symm
     · exact absurd ((hmem _).2 ((hm _).2 (by rw [mkS_of]; exact hz))) h
theorem has_of_nz {D : DataW Unit} (hD : ∃ es, D = .map es) {k : Lit} {c : Int} (h : D.atKey k (.lit (.int .i64 0)) = .lit (.int .i64 c)) (hc : c ≠ 0) : has D k = true := by
 obtain ⟨es, rfl⟩ := hD; rw [has_eq, List.any_eq_true]
 cases hf : es.find? (fun p => p.1.sameKey k) with
 | none =>
   simp only [DataW.atKey, hf] at h
   injection h with h
   injection h with _ h
   exact absurd h.symm hc
 | some p => exact ⟨p, List.mem_of_find?_eq_some hf, by simpa using List.find?_some hf⟩
open Go.RowKit Go.Maps
theorem Own.ofRow {E : TypeId} {S : Blk} {w : World} {base : Nat} {v : Value} {l : List Str} (h : w.ownsRow base E 1 v l.length (l.map Value.string)) : Own RStr E S w base v l := by
 refine ⟨⟨l.map (fun x => [.string x]), by rw [List.length_map], ?_, fun i x hx => ⟨[.string x], by rw [List.getElem?_map, hx]; rfl, rfl⟩⟩⟩
 have : (l.map (fun x => [Value.string x])).flatten = l.map Value.string := by
  clear h
  induction l with
  | nil => rfl
  | cons a l ih => simp [ih]
 rw [this]
 exact h
theorem Own.toRow {E : TypeId} {S : Blk} {w : World} {base : Nat} {v : Value} {l : List Str} (h : Own RStr E S w base v l) : w.ownsRow base E 1 v l.length (l.map Value.string) := by
 obtain ⟨css, h1, h2, h3⟩ := h.row
 have : css = l.map (fun x => [Value.string x]) := by
  refine List.ext_getElem (by rw [List.length_map]; exact h1) fun i hi hi2 => ?_
  rw [List.length_map] at hi2; obtain ⟨cs, e, r⟩ := h3 i l[i] (List.getElem?_eq_getElem hi2); obtain rfl : cs = _ := r; rw [List.getElem?_eq_getElem hi] at e; rw [List.getElem_map]
  exact Option.some.inj e
 subst this
 have e : (l.map (fun x => [Value.string x])).flatten = l.map Value.string := by
  clear h h1 h2 h3
  induction l with
  | nil => rfl
  | cons a l ih => simp [ih]
 rw [e] at h2
 exact h2
theorem map_enc (ss : List (List UInt8)) : (ss.map mkS).map Value.string = ss.map encStr := by rw [List.map_map]; rfl
theorem size_le {w : World} {b n : Nat} {D : DataW Unit} (h : w.ownsMap Tryz.prog 9 (mapRd Tryz.prog) b n D) : size D ≤ n := by
 obtain ⟨es, clock, _, _, hn, rfl⟩ := h
 show ((es.toList.map _).foldr DataW.insert []).length ≤ n
 rw [length_sorted, List.length_map]
 exact hn
def nzK (x : Lin) (b : List UInt8) : Bool := kAQ x.terms (mkS b) != 0
theorem strInv : ∀ key kl, keyOf Tryz.prog 9 key = some kl → ∃ x : List UInt8, key = encStr x := fun key kl hk => by obtain ⟨x, hx, _⟩ := Maps.keyOf_str underlying9 hk; exact ⟨x, hx⟩
theorem intInv : ∀ v y, mapRd Tryz.prog v = some y → ∃ c : Int, v = .int .i64 c := fun v y hv => by obtain ⟨c, rfl, _⟩ := plainElem_int_inv underlying3 hv; exact ⟨c, rfl⟩
theorem sum_result {w : World} (p bm n : Nat) (D : DataW Unit) (x : Lin) (hs : Srt x.terms) (hz0 : Nz x.terms) (hz : szL x) (hBx : Bx w p 167 [.int .i64 x.const, .map (some bm)]) (hM : MapF w bm n D (kAQ x.terms)) (hn : n ≤ 1000) (E : Env w) :
 Calls Tryz.prog 150 #[.pointer (some ⟨p, 0, none⟩)] w fun e w' => (∃ ds, e = .returned (.tuple #[.agg ds.toArray, .int .i64 (limE x)]) ∧ RLin.rd (fun k => w.heap.size ≤ k) w' ds (limL x)) ∧ Below w.heap.size w w' := by
 have hp0 := hBx.cell 0 _ rfl; have hp1 := hBx.cell 1 _ rfl; have hpl := hBx.lt; have HBX := hJ hBx; have HM := hJ hM; have HSrt := hJ hs; have HNz := hJ hz0; have HZ := hJ hz; have EE := hJ E; clear hBx hM hs hz0 hz E; obtain ⟨B0, ya, yb, hW0⟩ := box2 w 65 [.int .i64 0, .slice none 0 0] 65 [.int .i64 x.const, .slice none 0 0]; have xa0 := box0 ya 0 _ rfl; have xa1 := box0 ya 1 _ rfl; have xb0 := box0 yb 0 _ rfl; have xb1 := box0 yb 1 _ rfl
 have bka : Bx _ _ _ _ := ya; have bkb : Bx _ _ _ _ := yb
 clear ya yb; have HB2 := hJ bka; have HB4 := hJ bkb; have HM0 := hJ (HM.out.kept B0.out); clear xa0 xa1 xb0 xb1 bka bkb
 go_enter func150, ntmps150
 go_wp2_with (first | (at_range; refine wpList_range_own _ rfl _ _ rfl 9 3 strKey underlying165 (mapRd Tryz.prog) bm n D rfl HM0.out.own ?_; intro w0 hrg0 hg0 hs0))
 have HB0 : Hid (Below (w.heap.size + 2) ((w.alloc (.cells #[.int .i64 0, .slice none 0 0] 65)).alloc (.cells #[.int .i64 x.const, .slice none 0 0] 65)) w0) := hJ ⟨hg0.os, hg0.tape, hg0.output, hg0.size, fun k hk => hg0.block k (by simp; omega) (by simp)⟩
 have HSz := hJ (size_le HM0.out.own)
 have HM1 := hJ (HM0.out.kept ⟨hg0.os, hg0.tape, hg0.output, hg0.size, fun k hk => hg0.block k hk (by simp)⟩)
 clear hg0
 generalize ((w.alloc (.cells #[.int .i64 0, .slice none 0 0] 65)).alloc (.cells #[.int .i64 x.const, .slice none 0 0] 65)) = W at *
 have hWa : w.heap.size + 2 ≤ W.heap.size := by omega
 have hWb : W.heap.size ≤ w.heap.size + 2 := by omega
 clear hW0; have hbml := HM.out.lt
 go_frame
 go_loopw [5] (fun v wr => ∃ (left : Lit → Bool) (cnt : Nat) (ss : List (List UInt8)) (v0 : Value), v0 = v ∧ wr.ranges Tryz.prog 9 (mapRd Tryz.prog) bm W.heap.size n D left cnt ∧ Hid (Collected D left ss) ∧ ss.length + cnt ≤ size D ∧ Hid (Own RStr 9 (fun _ => False) wr (w.heap.size + 3) v ((ss.filter (nzK x)).map mkS)) ∧ Hid (Below (w.heap.size + 2) W wr) ∧ w.heap.size + 3 ≤ wr.heap.size) (fun _ wr => wr.rangeLeft bm W.heap.size)
 case atStart => exact ⟨_, _, [], _, rfl, hrg0, hJ (Collected.start D), by simp, hJ (Own.nil _ _ _ _ _), HB0, by omega⟩
 case round =>
  obtain ⟨left, cnt, ss, v0, rfl, hrg, HC, hcnt, HO, HB, hws⟩ := hrel; have hszn := HSz.out
  go_wp2_with (first
   | (at_next; refine wpList_next_ranges _ rfl _ rfl 9 strKey (mapRd Tryz.prog) encStr (Value.int .i64) strInv intInv bm W.heap.size n D left cnt rfl hrg ?_ ?_))
  · intro hc0 hl0
    have HTerms : Hid (((ss.filter (nzK x)).mergeSort leB).map (kF3 (kAQ x.terms)) = x.terms) := hJ (by
     obtain ⟨h1, h2⟩ := HC.out
     refine terms_of HSrt.out HNz.out (h1.filter _) (fun b => ?_)
     rw [List.mem_filter]
     constructor
     · rintro ⟨_, q⟩; simpa [nzK] using q
     · intro q
       refine ⟨(h2 b).2 ⟨has_of_nz (by obtain ⟨es, hD, _⟩ := HM.out.own.entries strKey; exact ⟨es, hD⟩) (HM.out.at_ (mkS b)) q, hl0 _⟩, by simpa [nzK] using q⟩)
    have hfl : (ss.filter (nzK x)).length ≤ 1000 := by
     have := List.length_filter_le (nzK x) ss
     omega
    have hrow := HO.out.toRow; rw [List.length_map, map_enc] at hrow; clear hrg HC hc0 hl0 HO
    generalize ss.filter (nzK x) = Ls at *
    have hML : (Ls.mergeSort leB).length = Ls.length := List.length_mergeSort _
    obtain ⟨_, ⟨rfl, h0⟩ | ⟨g, cap, cur, rfl, hbase, hb, h1, h2, h3, h4⟩⟩ := hrow
    · have hLs : Ls = [] := List.eq_nil_of_length_eq_zero h0
      subst hLs
      go_wp2_with (go_at_call 85; refine (sort_none _).mono ?_; rintro e W5 ⟨rfl, hb5⟩; have HB5 := hJ (HB.out.trans (hb5.mono (by omega))))
      have HS5 : Hid (Sl RStr (fun k => w.heap.size + 3 ≤ k) W5 none 0 0 ((([] : List (List UInt8)).mergeSort leB).map mkS)) := hJ (by rw [List.mergeSort_nil]; exact Sl.empty _ _ _)
      have HMl : Hid ((([] : List (List UInt8)).mergeSort leB).length = 0) := hJ hML
      generalize ([] : List (List UInt8)).mergeSort leB = M at *
      have HXM5 := hJ (HM.out.kept (B0.out.trans (HB5.out.mono (by omega))))
      have HX5 := hJ (HBX.out.below (B0.out.trans (HB5.out.mono (by omega))) hpl)
      have HX24 := hJ (HB2.out.below HB5.out (by omega))
      have HX45 := hJ (HB4.out.below HB5.out (by omega))
      have E5 := hJ (EE.out.below (B0.out.trans (HB5.out.mono (by omega))))
      have hpl5 : p < W5.heap.size := HX5.out.lt
      have hl45 : w.heap.size + 1 < W5.heap.size := HX45.out.lt
      have hsm5 := HS5.out.small
      go_wp2_with fail
      go_loopw [35] (fun i wr => ∃ (k : Nat) (v : Value), k ≤ 0 ∧ i = .int .i64 k ∧ Hid (Bx wr (w.heap.size + 1) 65 [.int .i64 x.const, v]) ∧ Hid (Own kBP 62 (fun _ => False) wr W5.heap.size v ((M.take k).map (kF3 (kAQ x.terms)))) ∧ Hid (K2 (w.heap.size + 1) (w.heap.size + 1) W5 wr)) (fun i _ => 0 - (intOf i).toNat)
      case atStart => exact ⟨0, _, Nat.zero_le _, rfl, HX45, hJ (Own.nil _ _ _ _ _), hJ (K2.refl _ _ _)⟩
      case round =>
       obtain ⟨k, v, hk, rfl, HX, HO, HK⟩ := hrel; have hsz6 := HK.out.size
       by_cases hlt : k < 0
       · exact absurd hlt (by omega)
       · have HTE : Hid ((M.take k).map (kF3 (kAQ x.terms)) = x.terms) := hJ (by rw [List.take_of_length_le (by rw [HMl.out]; omega), HTerms.out])
         rw [HTE.out] at HO; obtain ⟨av, cv, rfl, hsv⟩ := HO.out.sl
         have HBw : Hid (Below w.heap.size w wr) := hJ (B0.out.trans ((HB5.out.mono (by omega)).trans ((HK.out.below (B := w.heap.size) (by omega) (by omega) (by omega)))))
         have HCV := hJ (kDA x av _ cv wr hsv HZ.out (EE.out.below HBw.out)); have z0 := HX.out.cell 0 _ rfl; have z1 := HX.out.cell 1 _ rfl
         have HX2w := hJ (HK.out.bx HX24.out (by omega) (by omega))
         have HSv := hJ hsv
         have hl2 : w.heap.size < wr.heap.size := HX2w.out.lt
         have HL1 : Hid (limL x = if kAD x then x else ⟨0, []⟩) := hJ rfl
         have HL2 : Hid (limE x = if kAD x then 0 else 3) := hJ rfl
         clear hsv HO
         by_cases hv : kAD x = true
         · rw [hv] at HCV
           have HL1 : Hid (limL x = x) := hJ (by rw [HL1.out, hv]; rfl)
           have HL2 : Hid (limE x = 0) := hJ (by rw [HL2.out, hv]; rfl)
           clear hv
           go_wp2_with fail
           refine (HCV.out).mono ?_
           rintro e w7 ⟨rfl, hb7⟩
           have HX27 := hJ (HX2w.out.below hb7 hl2); have HX47 := hJ (HX.out.below hb7 HX.out.lt); have k0 := HX47.out.cell 0 _ rfl; have k1 := HX47.out.cell 1 _ rfl; have u0 := HX27.out.cell 0 _ rfl; have u1 := HX27.out.cell 1 _ rfl; have u2 := HX27.out.fz 0; have u3 := HX27.out.fz 1; have HX60 := hJ ((HX27.out.set 0 (.int .i64 x.const)).set 1 (.slice av x.terms.length cv)); have s0 := HX60.out.cell 0 _ rfl; have s1 := HX60.out.cell 1 _ rfl
           go_wp2_with fail
           refine bodyPost_ret (v := .tuple #[.agg #[.int .i64 x.const, .slice av x.terms.length cv], .int .i64 0]) (by simp [results, results150, go_sem, s0, s1]) rfl ?_
           refine ⟨⟨[.int .i64 x.const, .slice av x.terms.length cv], by rw [HL2.out], ?_⟩, ?_⟩
           · rw [HL1.out]
             refine ⟨_, rfl, av, cv, rfl, ?_⟩
             refine ((HSv.out.below hb7).frame fun q hq _ => ?_).mono (fun q hq _ => by rcases hq with hq | hq; exact hq.elim; omega)
             have hq2 : W5.heap.size ≤ q := by rcases hq with hq | hq; exact hq.elim; exact hq
             rw [kAA (by show w.heap.size ≠ q; omega), kAA (by show w.heap.size ≠ q; omega)]
           · exact ((HBw.out.trans (hb7.mono (by omega))).setCell (Nat.le_refl _) _).setCell (Nat.le_refl _) _
         · have hv : kAD x = false := by simpa using hv
           rw [hv] at HCV
           have HL1 : Hid (limL x = ⟨0, []⟩) := hJ (by rw [HL1.out, hv]; rfl)
           have HL2 : Hid (limE x = 3) := hJ (by rw [HL2.out, hv]; rfl)
           clear hv
           go_wp2_with fail
           refine (HCV.out).mono ?_
           rintro e w7 ⟨rfl, hb7⟩
           have HX27 := hJ (HX2w.out.below hb7 hl2); have u0 := HX27.out.cell 0 _ rfl; have u1 := HX27.out.cell 1 _ rfl; have u2 := HX27.out.fz 0; have u3 := HX27.out.fz 1; have HX60 := hJ ((HX27.out.set 0 (.int .i64 0)).set 1 (.slice none 0 0)); have s0 := HX60.out.cell 0 _ rfl; have s1 := HX60.out.cell 1 _ rfl
           go_wp2_with fail
           refine bodyPost_ret (v := .tuple #[.agg #[.int .i64 0, .slice none 0 0], .int .i64 3]) (by simp [results, results150, go_sem, s0, s1]) rfl ?_
           refine ⟨⟨[.int .i64 0, .slice none 0 0], by rw [HL2.out], by rw [HL1.out]; exact RLin.zero _ _⟩, ((HBw.out.trans (hb7.mono (by omega))).setCell (Nat.le_refl _) _).setCell (Nat.le_refl _) _⟩
    · have hH : Go.Sort.Holds encStr wr g 0 Ls.toArray := holds_of_block hb (by simpa using h4)
      have hgl : g < wr.heap.size := (Array.getElem?_eq_some_iff.1 hb).1
      have hcs := hJ (Tryz.slices_Sort_string g 0 cap Ls wr hH hgl (by omega))
      go_wp2_with (go_at_call 85; refine hcs.out.mono ?_; rintro e W5 ⟨rfl, nn, os, hW5⟩; have HW5 := hJ hW5; clear hW5)
      have HR5 := ownsRow_sorted (n := nn) (os := os) (cap := cap) (ts := Ls.mergeSort leB) (ss := Ls) hML hbase hb h1 h2 h3
      have hg5 : wr.grownBy W5 (some g) := by rw [HW5.out]; exact grownBy_sorted _
      have HB5 : Hid (Below (w.heap.size + 2) W W5) := hJ (HB.out.trans ⟨hg5.os, hg5.tape, hg5.output, hg5.size, fun k hk => hg5.block k (by omega) (fun e => by cases e; omega)⟩)
      have HO5 : Hid (Own RStr 9 (fun _ => False) W5 (w.heap.size + 3) (.slice (some ⟨g, 0, none⟩) Ls.length cap) ((Ls.mergeSort leB).map mkS)) := hJ (Own.ofRow (by
       rw [map_enc, List.length_map, hML, HW5.out]; exact HR5))
      have HS5 : Hid (Sl RStr (fun k => w.heap.size + 3 ≤ k) W5 (some ⟨g, 0, none⟩) Ls.length cap ((Ls.mergeSort leB).map mkS)) := hJ (by
       obtain ⟨a5, c5, e5, hs5⟩ := HO5.out.sl; rw [Value.slice.injEq] at e5; obtain ⟨rfl, e6, rfl⟩ := e5; rw [← e6] at hs5
       exact hs5.mono (fun k hk _ => by rcases hk with hk | hk; exact hk.elim; exact hk))
      have HMl : Hid ((Ls.mergeSort leB).length = Ls.length) := hJ hML
      clear HR5 hg5 HW5 hH hcs h3 h4 hb hML
      generalize Ls.mergeSort leB = M at *
      have HXM5 := hJ (HM.out.kept (B0.out.trans (HB5.out.mono (by omega))))
      have HX5 := hJ (HBX.out.below (B0.out.trans (HB5.out.mono (by omega))) hpl)
      have HX24 := hJ (HB2.out.below HB5.out (by omega))
      have HX45 := hJ (HB4.out.below HB5.out (by omega))
      have E5 := hJ (EE.out.below (B0.out.trans (HB5.out.mono (by omega))))
      have hpl5 : p < W5.heap.size := HX5.out.lt
      have hl45 : w.heap.size + 1 < W5.heap.size := HX45.out.lt
      have hsm5 := HS5.out.small
      go_wp2_with fail
      go_loopw [35] (fun i wr => ∃ (k : Nat) (v : Value), k ≤ Ls.length ∧ i = .int .i64 k ∧ Hid (Bx wr (w.heap.size + 1) 65 [.int .i64 x.const, v]) ∧ Hid (Own kBP 62 (fun _ => False) wr W5.heap.size v ((M.take k).map (kF3 (kAQ x.terms)))) ∧ Hid (K2 (w.heap.size + 1) (w.heap.size + 1) W5 wr)) (fun i _ => Ls.length - (intOf i).toNat)
      case atStart => exact ⟨0, _, Nat.zero_le _, rfl, HX45, hJ (Own.nil _ _ _ _ _), hJ (K2.refl _ _ _)⟩
      case round =>
       obtain ⟨k, v, hk, rfl, HX, HO, HK⟩ := hrel; have hsz6 := HK.out.size
       by_cases hlt : k < Ls.length
       · obtain ⟨b, off, ha5, hbW, hSb⟩ := HS5.out.form k hlt
         cases ha5
         have f0 := HS5.out.str k hlt
         have f1 : wr.cell? ⟨g, 0 + k, none⟩ = some (.string ((M.map mkS).getD k default)) := kCB f0 (fun _ => HK.out.block g hbW (by omega) (by omega))
         rw [Nat.zero_add] at f1
         have hkM : k < M.length := by rw [HMl.out]; exact hlt
         have hgd : (M.map mkS).getD k default = mkS (M.getD k default) := by
          rw [List.getD_eq_getElem?_getD, List.getElem?_map, List.getElem?_eq_getElem hkM, List.getD_eq_getElem?_getD, List.getElem?_eq_getElem hkM]; rfl
         rw [hgd] at f1
         have HNext : Hid ((M.take (k + 1)).map (kF3 (kAQ x.terms)) = (M.take k).map (kF3 (kAQ x.terms)) ++ [⟨mkS (M.getD k default), kAQ x.terms (mkS (M.getD k default))⟩]) := hJ (by rw [kAU hkM, List.map_append]; rfl)
         have hlenk : ((M.take k).map (kF3 (kAQ x.terms))).length ≤ 1000 := by rw [List.length_map, List.length_take]; omega
         have HMk : Hid (MapF wr bm n D (kAQ x.terms)) := hJ ⟨by
          obtain ⟨es, clock, h1, h2⟩ := HXM5.out.own
          exact ⟨es, clock, (HK.out.block bm HXM5.out.lt (by omega) (by omega)).trans h1, h2⟩, HXM5.out.at_⟩
         have HXp : Hid (Bx wr p 167 [.int .i64 x.const, .map (some bm)]) := hJ (HK.out.bx HX5.out (by omega) (by omega))
         have p1 := HXp.out.cell 1 _ rfl; have z1 := HX.out.cell 1 _ rfl; have zf := HX.out.fz 1
         have hlw : w.heap.size + 1 < wr.heap.size := by omega
         have hpw : p < wr.heap.size := by omega
         have hlk : (Instr.lookup 165 (.map (some bm)) (.string (mkS (M.getD k default))) false).run Tryz.prog wr.drew = .ok (.int .i64 (kAQ x.terms (mkS (M.getD k default)))) wr.drew := (HMk.out.kept (Below.refl _ _).drew).look _ (by
          have h1 : kF3 (kAQ x.terms) (M.getD k default) ∈ M.map (kF3 (kAQ x.terms)) := List.mem_map.2 ⟨_, kAI hkM, rfl⟩
          rw [HTerms.out] at h1
          exact Nat.le_trans (HZ.out _ h1) (by decide))
         clear f0 hgd hkM
         generalize mkS (M.getD k default) = nm at *
         generalize kAQ x.terms nm = cc at *
         generalize (M.take k).map (kF3 (kAQ x.terms)) = tl at *
         go_wp2_with fail
         go_region_law (first
          | (refine kCC kC1 rfl (.tmp 40) (.tmp 49) rfl W5.heap.size v tl rfl ((HO.out.drew).alloc _) _ ⟨nm, cc⟩ [.string nm, .int .i64 cc] rfl rfl (kA4 62 (by (simp only [kAG, kAE, Array.getElem?_push, Array.size_push]; simp))) (by omega) (by unfold maxLen; omega) (by simp <;> omega) ?_
             intro v9 w9 hown9 hb9 hk9
             obtain ⟨a9, m9, c9, rfl⟩ := hown9.shape
             change Kp v _ _ w9 at hk9
             have HX9 := hJ (((HX.out.drew).alloc _).kp hk9 (HO.out.ne (by omega)))
             have HP9 := hJ (((HXp.out.drew).alloc _).kp hk9 (HO.out.ne (by omega)))
             have s1 := HP9.out.cell 1 _ rfl; have s2 := HX9.out.cell 1 _ rfl
             have s3 := HX9.out.fz 1))
         all_goals
          have HKN : Hid (K2 (w.heap.size + 1) (w.heap.size + 1) W5 (w9.setCell ⟨w.heap.size + 1, 1, none⟩ (.slice a9 m9 c9))) := hJ ⟨hb9.os.trans HK.out.os, hb9.tape.trans HK.out.tape, hb9.output.trans HK.out.output, by
           have h1 := hb9.size
           simp at h1 ⊢
           omega, fun k hk h1 _ => (kAA (fun e => h1 e.symm)).trans ((hb9.block k hk).trans ((by show (wr.heap.push _)[k]? = wr.heap[k]?; rw [Array.getElem?_push, if_neg (by omega)] : (wr.drew.alloc _).heap[k]? = wr.heap[k]?).trans (HK.out.block k hk h1 h1)))⟩
          have HON : Hid (Own kBP 62 (fun _ => False) (w9.setCell ⟨w.heap.size + 1, 1, none⟩ (.slice a9 m9 c9)) W5.heap.size (.slice a9 m9 c9) ((M.take (k + 1)).map (kF3 (kAQ x.terms)))) := hJ (by rw [HNext.out]; exact hown9.set _ (fun _ q => q.elim) (by show w.heap.size + 1 < _; omega))
          go_wp2_with fail
          go_roundw
          case rel => exact ⟨k + 1, _, by omega, by go_num, hJ (HX9.out.set 1 _), HON, HKN⟩
          case measure => simp [intOf]; omega
       · have HTE : Hid ((M.take k).map (kF3 (kAQ x.terms)) = x.terms) := hJ (by rw [List.take_of_length_le (by rw [HMl.out]; omega), HTerms.out])
         rw [HTE.out] at HO; obtain ⟨av, cv, rfl, hsv⟩ := HO.out.sl
         have HBw : Hid (Below w.heap.size w wr) := hJ (B0.out.trans ((HB5.out.mono (by omega)).trans ((HK.out.below (B := w.heap.size) (by omega) (by omega) (by omega)))))
         have HCV := hJ (kDA x av _ cv wr hsv HZ.out (EE.out.below HBw.out)); have z0 := HX.out.cell 0 _ rfl; have z1 := HX.out.cell 1 _ rfl
         have HX2w := hJ (HK.out.bx HX24.out (by omega) (by omega))
         have HSv := hJ hsv
         have hl2 : w.heap.size < wr.heap.size := HX2w.out.lt
         have HL1 : Hid (limL x = if kAD x then x else ⟨0, []⟩) := hJ rfl
         have HL2 : Hid (limE x = if kAD x then 0 else 3) := hJ rfl
         clear hsv HO
         by_cases hv : kAD x = true
         · rw [hv] at HCV
           have HL1 : Hid (limL x = x) := hJ (by rw [HL1.out, hv]; rfl)
           have HL2 : Hid (limE x = 0) := hJ (by rw [HL2.out, hv]; rfl)
           clear hv
           go_wp2_with fail
           refine (HCV.out).mono ?_
           rintro e w7 ⟨rfl, hb7⟩
           have HX27 := hJ (HX2w.out.below hb7 hl2); have HX47 := hJ (HX.out.below hb7 HX.out.lt); have k0 := HX47.out.cell 0 _ rfl; have k1 := HX47.out.cell 1 _ rfl; have u0 := HX27.out.cell 0 _ rfl; have u1 := HX27.out.cell 1 _ rfl; have u2 := HX27.out.fz 0; have u3 := HX27.out.fz 1; have HX60 := hJ ((HX27.out.set 0 (.int .i64 x.const)).set 1 (.slice av x.terms.length cv)); have s0 := HX60.out.cell 0 _ rfl; have s1 := HX60.out.cell 1 _ rfl
           go_wp2_with fail
           refine bodyPost_ret (v := .tuple #[.agg #[.int .i64 x.const, .slice av x.terms.length cv], .int .i64 0]) (by simp [results, results150, go_sem, s0, s1]) rfl ?_
           refine ⟨⟨[.int .i64 x.const, .slice av x.terms.length cv], by rw [HL2.out], ?_⟩, ?_⟩
           · rw [HL1.out]
             refine ⟨_, rfl, av, cv, rfl, ?_⟩
             refine ((HSv.out.below hb7).frame fun q hq _ => ?_).mono (fun q hq _ => by rcases hq with hq | hq; exact hq.elim; omega)
             have hq2 : W5.heap.size ≤ q := by rcases hq with hq | hq; exact hq.elim; exact hq
             rw [kAA (by show w.heap.size ≠ q; omega), kAA (by show w.heap.size ≠ q; omega)]
           · exact ((HBw.out.trans (hb7.mono (by omega))).setCell (Nat.le_refl _) _).setCell (Nat.le_refl _) _
         · have hv : kAD x = false := by simpa using hv
           rw [hv] at HCV
           have HL1 : Hid (limL x = ⟨0, []⟩) := hJ (by rw [HL1.out, hv]; rfl)
           have HL2 : Hid (limE x = 3) := hJ (by rw [HL2.out, hv]; rfl)
           clear hv
           go_wp2_with fail
           refine (HCV.out).mono ?_
           rintro e w7 ⟨rfl, hb7⟩
           have HX27 := hJ (HX2w.out.below hb7 hl2); have u0 := HX27.out.cell 0 _ rfl; have u1 := HX27.out.cell 1 _ rfl; have u2 := HX27.out.fz 0; have u3 := HX27.out.fz 1; have HX60 := hJ ((HX27.out.set 0 (.int .i64 0)).set 1 (.slice none 0 0)); have s0 := HX60.out.cell 0 _ rfl; have s1 := HX60.out.cell 1 _ rfl
           go_wp2_with fail
           refine bodyPost_ret (v := .tuple #[.agg #[.int .i64 0, .slice none 0 0], .int .i64 3]) (by simp [results, results150, go_sem, s0, s1]) rfl ?_
           refine ⟨⟨[.int .i64 0, .slice none 0 0], by rw [HL2.out], by rw [HL1.out]; exact RLin.zero _ _⟩, ((HBw.out.trans (hb7.mono (by omega))).setCell (Nat.le_refl _) _).setCell (Nat.le_refl _) _⟩
  · intro x1 c kl yd yp w2 cnt2 hkey hlk hv hat hrg2 hlt hg2 hs2 hen
    obtain ⟨x', ex, rfl, _⟩ := Maps.keyOf_str underlying9 hkey; obtain rfl : x1 = x' := encStr_inj ex
    have hws2 : w.heap.size + 3 ≤ w2.heap.size := by omega
    have hcv : c = kAQ x.terms (mkS x1) := by
     have h1 := HM.out.at_ (mkS x1); have h2 := hat (.lit (.int .i64 0)); obtain ⟨a0, e0, e2⟩ := plainElem_int_inv underlying3 hv
     cases e0
     obtain ⟨e2, _⟩ := e2
     injection e2 with e3 e4
     subst e3
     rw [show (mkS x1).data.toList = x1 from rfl] at h1
     rw [h1] at h2
     injection h2 with h2
     injection h2 with _ h2
     exact h2.symm
    have HC2 := hJ (HC.out.step hlk hat)
    have HO2 := hJ (HO.out.frame (w' := w2) (fun k hk q => hg2.block k hk (fun e => by
     rcases q with q | q
     · exact q.elim
     · have := HO.out.base_le k q
       cases e
       omega)) hg2.size)
    have HB2b : Hid (Below (w.heap.size + 2) W w2) := hJ (HB.out.trans ⟨hg2.os, hg2.tape, hg2.output, hg2.size, fun k hk => hg2.block k (by omega) (fun e => by cases e; omega)⟩)
    have hm2 : w2.rangeLeft bm W.heap.size < wr.rangeLeft bm W.heap.size := by rw [hrg2.left_eq, hrg.left_eq]; exact hlt
    clear hs2 hkey hv hat hg2 ex
    by_cases hz : c = 0
    · have hz2 : (c != 0) = false := by rw [hz]; rfl
      have HF : Hid ((ss ++ [x1]).filter (nzK x) = ss.filter (nzK x)) := hJ (by
       rw [List.filter_append, List.filter_cons_of_neg (by unfold nzK; rw [← hcv, hz]; decide)]; simp)
      clear hz
      go_wp2_with fail
      go_roundw
      case rel => exact ⟨_, cnt2, ss ++ [x1], _, rfl, hrg2, HC2, by rw [List.length_append]; simp; omega, by rw [HF.out]; exact HO2, HB2b, hws2⟩
      case measure => exact hm2
    · have hz2 : (c != 0) = true := bne_iff_ne.2 hz
      have HF : Hid ((ss ++ [x1]).filter (nzK x) = ss.filter (nzK x) ++ [x1]) := hJ (by
       rw [List.filter_append, List.filter_cons_of_pos (by unfold nzK; rw [← hcv]; exact hz2)]; simp)
      have hfl : ((ss.filter (nzK x)).map mkS).length ≤ 1000 := by
       have := List.length_filter_le (nzK x) ss
       rw [List.length_map]; omega
      clear hz
      go_wp2_with (at_builtin; refine kA8 kD3 rfl _ _ rfl (w.heap.size + 3) _ _ rfl (HO2.out.alloc _) _ (mkS x1) [encStr x1] rfl rfl (kA4 9 (by (simp only [kAG, kAE, Array.getElem?_push, Array.size_push]; simp))) (by omega) (by unfold maxLen; omega) (by simp; omega) ?_; intro v9 w9 hown9 hb9 hk9; go_frame)
      change Kp v0 _ _ w9 at hk9
      have hg9 : w2.grownBy w9 v0.ownBlock := ⟨hb9.os, hb9.tape, hb9.output, by have := hb9.size; simp at this; omega, fun k hk hne => (hk9.block k (by simp; omega) (fun e => hne (by rw [e]))).trans (by show (w2.heap.push _)[k]? = _; rw [Array.getElem?_push, if_neg (by omega)])⟩
      have hnr : ∀ q, q < w.heap.size + 3 → some q ≠ v0.ownBlock := fun q hq e => by have := HO.out.base_le q e.symm; omega
      have hrg9 := hrg2.kept hg9 (hnr _ (by omega)) (hnr _ (by omega))
      have HO9 : Hid (Own RStr 9 (fun _ => False) w9 (w.heap.size + 3) v9 (((ss ++ [x1]).filter (nzK x)).map mkS)) := hJ (by rw [HF.out, List.map_append]; exact hown9)
      have HB9 : Hid (Below (w.heap.size + 2) W w9) := hJ ((HB2b.out.alloc (by omega) _).trans (hb9.mono (by omega)))
      go_roundw
      case rel => exact ⟨_, cnt2, ss ++ [x1], _, rfl, hrg9, HC2, by rw [List.length_append]; simp; omega, HO9, HB9, by have := hb9.size; simp at this; omega⟩
      case measure => rw [hrg9.left_eq, hrg.left_eq]; exact hlt
end Go.Proofs.YtjongcdlginjlaaGreatDoor
