/- The claim's texts, part 7: contracts of the functions that the statement reaches, and what they say of the data. -/
import Derived.Test.YtjongcdlginjlaaGreatDoorPm6
set_option maxRecDepth 100000
set_option maxHeartbeats 8000000
set_option linter.all false
namespace Go.Proofs.YtjongcdlginjlaaGreatDoor
open Go.Proofs.Tryz
open Go.RowKit
theorem ref11_join {S T : Blk} (row : Str) (a0 : Option Addr) (c0 : Nat) (l : List Lin) (a : Option Addr) (n c : Nat) (w : World) (h0 : Sl RLin T w a0 0 c0 []) (h : Sl RLin S w a n c l) (hn : n ≤ 6) :
 Calls Tryz.prog 165 #[.string row, .slice a0 0 c0, .slice a n c] w fun e w' => (∃ ds, e = .returned (.tuple #[.agg ds.toArray, .int .i64 0]) ∧ RShp.rd (fun k => S k ∨ w.heap.size ≤ k) w' ds ⟨row, l⟩) ∧ Below w.heap.size w w' := by
 have HL := hJ h.len
 have HS := hJ (h.mono (S' := fun k => S k ∧ k < w.heap.size) (fun k hk hlt => ⟨hk, hlt⟩))
 have HS0 := hJ h0; have hm := h.small
 have B0 : Hid (Below w.heap.size w (w.alloc (.cells #[.string ⟨#[]⟩, .slice none 0 0] 37))) := hJ ((Below.refl _ _).alloc (Nat.le_refl _) _)
 have HT := hJ (Bx.fresh w 37 [.string ⟨#[]⟩, .slice none 0 0])
 have hq : ∀ k, (Value.slice (some ⟨w.heap.size + 1, 0, none⟩) 0 0).ownBlock = some k → w.heap.size + 1 ≤ k := by intro k e; simp [Value.ownBlock] at e; omega
 clear h h0; have tok1 := True.intro
 go_enter func165, ntmps165
 go_wp2_with (first
  | (have _t := tok1
     at_builtin
     refine app_sl kBJ rfl _ _ rfl (w.heap.size + 1) (.slice (some ⟨w.heap.size + 1, 0, none⟩) 0 0) [] [] rfl (Own.at0 RLin _ (fun k => S k ∧ k < w.heap.size) (by (simp only [kAG, kAE, Array.getElem?_push, Array.size_push]; simp)) (Nat.le_refl _)) a0 0 c0 rfl ?r0 (by simp) (by unfold maxLen; simp) (by simp) ?_
     case r0 => exact ⟨rfl, Nat.zero_le _, HS0.out.max, HS0.out.nil, fun i x hx => by simp at hx⟩
     intro v4 w4 hown4 hb4 hk4
     have HO4 := hJ hown4; have HB4 := hJ hb4
     change Kp (.slice (some ⟨w.heap.size + 1, 0, none⟩) 0 0) _ _ w4 at hk4
     have HX4 := hJ ((HT.out.alloc _).kp hk4 (by simp [Value.ownBlock]))
     have HBw4 : Hid (Below w.heap.size w w4) := hJ ((B0.out.alloc (by simp) _).trans (hb4.mono (Nat.le_succ _)))
     clear tok1 hown4 hb4 hk4)
  | (at_builtin
     refine app_sl kBJ rfl _ _ rfl (w.heap.size + 1) _ _ l rfl HO4.out a n c rfl ?r1 (by simp; omega) (by unfold maxLen; simp; omega) (by have := HB4.out.size; simp at this; omega) ?_
     case r1 => exact HS.out.later HBw4.out (fun k e => Nat.le_trans (Nat.le_succ _) (HO4.out.base_le k e))
     intro v5 w5 hown5 hb5 hk5
     obtain ⟨a5, m5, c5, rfl⟩ := hown5.shape
     change Kp v4 _ _ w5 at hk5
     have HX5 := hJ (HX4.out.kp hk5 (HO4.out.ne (Nat.lt_succ_self _))); have u0 := HX5.out.cell 0 _ rfl; have u1 := HX5.out.cell 1 _ rfl; have u2 := HX5.out.fz 0; have u3 := HX5.out.fz 1; have HX60 := hJ ((HX5.out.set 0 (.string row)).set 1 (.slice a5 m5 c5)); have s0 := HX60.out.cell 0 _ rfl
     have s1 := HX60.out.cell 1 _ rfl))
 refine bodyPost_ret (v := .tuple #[.agg #[.string row, .slice a5 m5 c5], .int .i64 0]) (by simp [results, results165, go_sem, s0, s1]) rfl ?_
 refine ⟨⟨[.string row, .slice a5 m5 c5], rfl, ?_⟩, (((HBw4.out.trans (hb5.mono (Nat.le_succ _))).setCell (Nat.le_refl _) _).setCell (Nat.le_refl _) _)⟩
 have hown5 : Own RLin 65 (fun k => S k ∧ k < w.heap.size) w5 (w.heap.size + 1) (.slice a5 m5 c5) l := hown5
 obtain ⟨a6, c6, e6, hs6⟩ := hown5.sl; rw [Value.slice.injEq] at e6; obtain ⟨rfl, rfl, rfl⟩ := e6
 refine ⟨_, rfl, a5, c5, rfl, ?_⟩
 refine (hs6.frame fun q hq _ => ?_).mono (fun q hq _ => by rcases hq with hq | hq; exact .inl hq.1; exact .inr (by omega))
 have hne : w.heap.size ≠ q := by rcases hq with hq | hq <;> intro e <;> omega
 rw [kAA hne, kAA hne]
theorem kF8 {S T : Blk} (row : Str) (a0 : Option Addr) (c0 : Nat) (l : List Lin) (a : Option Addr) (n c : Nat) (w : World) (h0 : Sl RLin T w a0 0 c0 []) (h : Sl RLin S w a n c l) (hn : n ≤ 6) :
 Calls Tryz.prog 165 #[.string row, .slice a0 0 c0, .slice a n c] w fun e w' => (∃ a5 c5, e = .returned (.tuple #[.agg #[.string row, .slice a5 n c5], .int .i64 0]) ∧ Sl RLin (fun k => S k ∨ w.heap.size ≤ k) w' a5 n c5 l) ∧ Below w.heap.size w w' := by
 refine (ref11_join row a0 c0 l a n c w h0 h hn).mono ?_
 rintro e w' ⟨⟨ds, rfl, _, rfl, a5, c5, rfl, hs⟩, hb⟩
 have e1 : (⟨row, l⟩ : Shp).dims.length = n := h.len
 rw [e1] at hs
 exact ⟨⟨a5, c5, by rw [← e1], hs⟩, hb⟩
theorem ref11_Subst {S T : Blk} {s : Shp} {cs : List Value} {w : World} (h : RShp.rd S w cs s) (hv : kAL s = true) (b : List Bnd) (a : Option Addr) (nb cb : Nat) (hbs : Sl RBnd T w a nb cb b) (hb : kBG b = true) (hp : kEZ b) :
 Calls Tryz.prog 120 #[.agg cs.toArray, .slice a nb cb] w fun e w' => (∃ ds, e = .returned (.tuple #[.agg ds.toArray, .int .i64 (kCN b s)]) ∧ RShp.rd (fun k => w.heap.size ≤ k) w' ds (kFT b s)) ∧ Below w.heap.size w w' := by
 have HCV : Hid (∀ W, Below w.heap.size w W → Calls Tryz.prog 115 #[.agg cs.toArray] W fun e w' => e = .returned (.bool true) ∧ Below W.heap.size W w') :=
  hJ (fun W hW => hv ▸ kEP (RShp.below h hW) (shp_sz hv))
 have HCB : Hid (∀ W, Below w.heap.size w W → Calls Tryz.prog 68 #[.slice a nb cb] W fun e w' => e = .returned (.bool true) ∧ Below W.heap.size W w') :=
  hJ (fun W hW => kDC b a nb cb W (hbs.below hW) hb)
 obtain ⟨_, rfl, ad, cd, rfl, hds⟩ := h; have HDs := hJ hds; have HBS := hJ hbs; have HD := hJ (kBW hv); have HG := hJ (kC0 hb); have HP := hJ hp
 have HGood := hJ (fun q => subShp_good (b := b) (s := s) hp hv q)
 have HBad := hJ (fun (i : Nat) (q1 : i < s.dims.length) q2 => subShp_bad (b := b) (s := s) hp hv q1 q2)
 have HRow : Hid (kCE b s = if s.row.toList.isEmpty then ⟨s.row, []⟩ else if 0 ≤ kBA b 2 s.row then (b.getD (kBA b 2 s.row).toNat default).row else ⟨s.row, []⟩) := hJ rfl
 have hmd := hds.small; have hnb := hbs.small; have hd6 := (kBW hv).1; clear hds hbs hv hb hp
 generalize hnd : s.dims.length = n at *
 have HND := hJ hnd; clear hnd; obtain ⟨B0, ya, yb, hW0⟩ := box2 w 37 [.string s.row, .slice ad n cd] 37 [.string ⟨#[]⟩, .slice none 0 0]; have xa0 := box0 ya 0 _ rfl; have xa1 := box0 ya 1 _ rfl; have xb0 := box0 yb 0 _ rfl; have xb1 := box0 yb 1 _ rfl
 have bka : Bx _ _ _ _ := ya; have bkb : Bx _ _ _ _ := yb
 clear ya yb; have HB4 := hJ bkb; clear bka bkb
 go_enter func120, ntmps120
 go_wp2_with fail
 refine (HCV.out _ B0.out).mono ?_
 rintro e w1 ⟨rfl, hb1⟩
 have hW1 := B0.out.trans (hb1.mono B0.out.size)
 go_wp2_with fail
 refine (HCB.out _ hW1).mono ?_
 rintro e w3 ⟨rfl, hb2⟩
 have HW3 := hJ (hW1.trans (hb2.mono hW1.size)); have g0 := kAC (kAC xa0 _ hb1) _ hb2; have g1 := kAC (kAC xa1 _ hb1) _ hb2; have HX43 := hJ ((HB4.out.below hb1 HB4.out.lt).below hb2 (HB4.out.below hb1 HB4.out.lt).lt); have hl43 := HX43.out.lt; clear xa0 xa1 xb0 xb1 hb1 hb2 hW1 HB4
 have HFnd : Hid (0 ≤ kBA b 2 s.row → ∃ k : Nat, kBA b 2 s.row = (k : Int) ∧ k < b.length) := hJ (fun q => by
  unfold kBA idx at q ⊢
  by_cases ha : b.any (isB 2 s.row) = true
  · rw [if_pos ha] at q ⊢
    exact ⟨b.findIdx (isB 2 s.row), rfl, (kFH ha).1⟩
  · rw [if_neg ha] at q; omega)
 go_wp2_with fail
 go_loopw [6, 7] (fun v i wr => ∃ (k : Nat) (v0 : Value), k ≤ n ∧ i = .int .i64 k ∧ v0 = v ∧ Hid (∀ i, i < k → kAD (kAF b (s.dims.getD i default)) = true) ∧ Hid (Own RLin 65 (fun q => w3.heap.size ≤ q) wr w3.heap.size v ((s.dims.take k).map (kAF b))) ∧ Below w3.heap.size w3 wr) (fun _ i _ => n - (intOf i).toNat)
 case atStart => exact ⟨0, _, Nat.zero_le _, rfl, rfl, hJ (fun i hi => absurd hi (by omega)), hJ (Own.nil _ _ _ _ _), Below.refl _ _⟩
 case round =>
  obtain ⟨k, v0, hk, rfl, rfl, HT, HO, hB⟩ := hrel; have g1w := kAC g1 _ hB
  by_cases hlt : k < n
  · obtain ⟨b1, off, rfl, hbW, _⟩ := HDs.out.form k hlt
    have HBw := hJ (HW3.out.trans (hB.mono HW3.out.size)); obtain ⟨t, hr, ⟨at_, ct, rfl, hts⟩, c0, c1⟩ := (HDs.out.below HBw.out).lin k hlt
    have HK : Hid (k < s.dims.length) := hJ (by rw [HND.out]; exact hlt)
    have HNext : Hid ((s.dims.take (k + 1)).map (kAF b) = (s.dims.take k).map (kAF b) ++ [kAF b (s.dims.getD k default)]) := hJ (by rw [kAU HK.out, List.map_append]; rfl)
    have hkl : ((s.dims.take k).map (kAF b)).length = k := by rw [List.length_map, List.length_take, HND.out]; omega
    have HBk := hJ (HBad.out k hlt)
    have HUp := hJ (fun q => upto HT.out (p := fun j => kAD (kAF b (s.dims.getD j default)) = true) q)
    have HXv := hJ (HD.out.2 _ (kAI HK.out)); have HCx := hJ (ref04_Subst hr HXv.out b _ nb cb (HBS.out.below HBw.out) HG.out); clear hr hts
    generalize s.dims.getD k default = x at *
    generalize (s.dims.take k).map (kAF b) = lk at *
    have hX43w := HX43.out.below hB hl43
    by_cases hvx : kAD (kAF b x) = true
    · obtain ⟨e1, e2⟩ := kDT hvx
      rw [e1, e2] at HCx; have HUp := hJ (HUp.out hvx); clear e1 e2 hvx
      go_wp2_with fail
      refine HCx.out.mono ?_
      rintro e w5 ⟨⟨_, rfl, hr5⟩, hb5⟩
      obtain ⟨_, rfl, a5, c5, rfl, hs5⟩ := hr5
      have HB5 : Hid (Below wr.heap.size wr w5) := hJ hb5
      have hsz5 : w3.heap.size ≤ w5.heap.size := by have h1 := HB5.out.size; have h2 := hB.size; omega
      have HRY : Hid (RLin.rd (fun q => w3.heap.size ≤ q ∧ v0.ownBlock ≠ some q) w5 [.int .i64 (kAF b x).const, .slice a5 (kAF b x).terms.length c5] (kAF b x)) := hJ ⟨_, rfl, a5, c5, rfl, hs5.mono (fun q hq _ => by
       have hq : wr.heap.size ≤ q := hq
       refine ⟨by have := hB.size; omega, fun e => ?_⟩
       have := (HO.out.block e).2
       omega)⟩
      go_wp2_with (at_builtin; refine kA8 kBJ rfl _ _ rfl w3.heap.size _ _ rfl (((HO.out.below HB5.out).alloc _).alloc _) _ (kAF b x) [.int .i64 (kAF b x).const, .slice a5 (kAF b x).terms.length c5] rfl (RLin.below HRY.out (((Below.refl _ _).alloc (Nat.le_refl _) _).alloc (by simp) _)) (kA4 65 (by (simp only [kAG, kAE, Array.getElem?_push, Array.size_push]; simp))) (by omega) (by unfold maxLen; omega) (by simp; omega) ?_; intro v9 w9 hown9 hb9 hk9)
      go_roundw
      case rel => exact ⟨k + 1, _, by omega, by go_num, rfl, HUp, hJ (by rw [HNext.out]; exact hown9), (hB.trans (HB5.out.mono hB.size)).trans ((((Below.refl _ _).alloc hsz5 _).alloc (by simp; omega) _).trans hb9)⟩
      case measure => simp [intOf]; omega
    · have hvx : kAD (kAF b x) = false := by simpa using hvx
      obtain ⟨e1, e2⟩ := lim_bad hvx; rw [e1, e2] at HCx; obtain ⟨z1, z2⟩ := HBk.out hvx; have HZ1 := hJ z1; have HZ2 := hJ z2; clear e1 e2 hvx z1 z2
      go_wp2_with fail
      refine HCx.out.mono ?_
      rintro e w5 ⟨⟨_, rfl, hr5⟩, hb5⟩
      obtain ⟨_, rfl, a5, c5, rfl, hs5⟩ := hr5
      have HB5 : Hid (Below wr.heap.size wr w5) := hJ hb5
      have HX45 := hJ (hX43w.below HB5.out hX43w.lt); have hx45 := HX45.out.lt; have u0 := HX45.out.cell 0 _ rfl; have u1 := HX45.out.cell 1 _ rfl; have u2 := HX45.out.fz 0; have u3 := HX45.out.fz 1; have HX60 := hJ ((HX45.out.set 0 (.string ⟨#[]⟩)).set 1 (.slice none 0 0)); have s0 := HX60.out.cell 0 _ rfl; have s1 := HX60.out.cell 1 _ rfl
      go_wp2_with fail
      refine bodyPost_ret (v := .tuple #[.agg #[.string ⟨#[]⟩, .slice none 0 0], .int .i64 3]) (by simp [results, results120, go_sem, s0, s1, hx45]) rfl ?_
      refine ⟨⟨[.string ⟨#[]⟩, .slice none 0 0], by rw [HZ2.out], by rw [HZ1.out]; exact ⟨_, rfl, none, 0, rfl, Sl.empty _ _ _⟩⟩, ?_⟩
      exact (((HBw.out.trans (HB5.out.mono HBw.out.size)).setCell (by show _ ≤ w.heap.size + 1; omega) _).setCell (by show _ ≤ w.heap.size + 1; omega) _).alloc (by simp; omega) _
  · obtain rfl : k = n := by omega
    have HAll : Hid ((s.dims.take k).map (kAF b) = s.dims.map (kAF b)) := hJ (by rw [List.take_of_length_le (by rw [HND.out]; exact Nat.le_refl _)])
    obtain ⟨z1, z2⟩ := HGood.out HT.out; have HZ1 := hJ z1; have HZ2 := hJ z2; rw [HAll.out] at HO; obtain ⟨av, cv, rfl, hsv⟩ := HO.out.sl
    have hkl : (s.dims.map (kAF b)).length = k := by rw [List.length_map, HND.out]
    rw [hkl] at hsv ⊢
    have HBw := hJ (HW3.out.trans (hB.mono HW3.out.size)); have g0w := kAC g0 _ hB; have HCF := hJ (kEA b a nb cb wr (HBS.out.below HBw.out) 2 s.row)
    have HSv := hJ (hsv.mono (S' := fun q => w.heap.size + 2 ≤ q) (fun q hq _ => by have h9 : w3.heap.size ≤ q := (hq.elim id id); omega))
    have hX43w := hJ (HX43.out.below hB hl43); have hx43 := hX43w.out.lt; have HKL := hJ hkl; clear hsv z1 z2 hkl
    by_cases he : s.row.toList.isEmpty = true
    · have HR : Hid (kCE b s = ⟨s.row, []⟩) := hJ (by rw [HRow.out, if_pos he])
      have HCM := hJ (kF8 (T := All) s.row none 0 (s.dims.map (kAF b)) av k cv wr (Sl.empty _ _ _) HSv.out hd6); clear HRow
      generalize kBA b 2 s.row = q at *
      go_wp2_with fail
      refine (HCF.out).mono ?_
      rintro e _ ⟨rfl, rfl⟩
      go_wp2_with fail
      refine HCM.out.mono ?_
      rintro e w5 ⟨⟨a5, c5, rfl, hs5⟩, hb5⟩
      have HX45 := hJ (hX43w.out.below hb5 hx43); have u0 := HX45.out.cell 0 _ rfl; have u1 := HX45.out.cell 1 _ rfl; have u2 := HX45.out.fz 0; have u3 := HX45.out.fz 1; have HS5 := hJ hs5; clear hs5; have HX60 := hJ ((HX45.out.set 0 (.string s.row)).set 1 (.slice a5 k c5)); have s0 := HX60.out.cell 0 _ rfl; have s1 := HX60.out.cell 1 _ rfl
      go_wp2_with fail
      refine bodyPost_ret (v := .tuple #[.agg #[.string s.row, .slice a5 k c5], .int .i64 0]) (by simp [results, results120, go_sem, s0, s1]) rfl ?_
      refine ⟨⟨[.string s.row, .slice a5 k c5], by rw [HZ2.out], ?_⟩, ?_⟩
      · rw [HZ1.out, HR.out]
        refine ⟨_, rfl, a5, c5, by rw [HKL.out], ?_⟩
        have h1 := HS5.out
        rw [show ({ row := s.row, dims := s.dims.map (kAF b) } : Shp).dims.length = k from HKL.out]
        have hss : ∀ q, (w.heap.size + 2 ≤ q ∨ wr.heap.size ≤ q) → w.heap.size + 2 ≤ q := fun q hq => by omega
        refine (h1.frame fun q hq _ => ?_).mono (fun q hq _ => by have := hss q hq; omega)
        have := hss q hq
        rw [kAA (by show w.heap.size + 1 ≠ q; omega), kAA (by show w.heap.size + 1 ≠ q; omega)]
      · exact ((HBw.out.trans (hb5.mono HBw.out.size)).setCell (by show _ ≤ w.heap.size + 1; omega) _).setCell (by show _ ≤ w.heap.size + 1; omega) _
    · have he2 : s.row.toList.isEmpty = false := by simpa using he
      by_cases hq : 0 ≤ kBA b 2 s.row
      · obtain ⟨kk, hkk, hkl⟩ := HFnd.out hq
        have hkn : kk < nb := by rw [← HBS.out.len]; exact hkl
        have HPk := hJ (HP.out _ (kAI hkl))
        have HR0 : Hid (kCE b s = (b.getD kk default).row) := hJ (by rw [HRow.out, if_neg he, if_pos hq, hkk]; rfl)
        rw [hkk] at HCF; clear hq he HFnd HRow hkk; obtain ⟨bb, boff, rfl, hbb, hSb⟩ := HBS.out.form kk hkn; obtain ⟨td, dd, hr, ⟨⟨at1, ct1, rfl, _⟩, ⟨ad1, cd1, rfl, hrd⟩⟩, e0, e1, e2, e3, e4, e5, e6⟩ := (HBS.out.below HBw.out).bnd kk hkn; rw [HPk.out] at e5 hrd; have HRd := hJ hrd
        have HR : Hid (kCE b s = ⟨(b.getD kk default).row.row, []⟩) := hJ (by rw [HR0.out]; have := HPk.out; revert this; generalize (b.getD kk default).row = rr; intro this; cases rr; simp_all)
        generalize (b.getD kk default).row.row = rr at *
        have HCM := hJ (fun (W' : World) (hW' : Below wr.heap.size wr W') => kF8 rr ad1 cd1 (s.dims.map (kAF b)) av k cv W' (HRd.out.below hW') (HSv.out.below hW') hd6)
        have hkn2 : (kk : Int) < (nb : Int) := by omega
        clear hr hrd e0 e1 e2 e3 e6; have m0 := hX43w.out.cell 0 _ rfl
        go_wp2_with fail
        refine (HCF.out).mono ?_
        rintro e _ ⟨rfl, rfl⟩
        go_wp2_with fail
        go_region_held3 (fun w' => w'.cell? ⟨bb, boff + kk * 7 + 4, none⟩ = some (.string rr) ∧ w'.cell? ⟨bb, boff + kk * 7 + 5, none⟩ = some (.slice ad1 0 cd1)) (first | exact ⟨p0, p1⟩ | exact ⟨(World.cell?_setCell_far _ _ _ _ (by simp only [ne_eq]; omega)).trans ((World.cell?_setCell_far _ _ _ _ (by simp only [ne_eq]; omega)).trans p0), (World.cell?_setCell_far _ _ _ _ (by simp only [ne_eq]; omega)).trans ((World.cell?_setCell_far _ _ _ _ (by simp only [ne_eq]; omega)).trans p1)⟩ | go_keep) (first
         | (go_at_call 165
            refine (HCM.out _ (by first | exact Below.refl _ _ | exact (Below.refl _ _).drew)).mono ?_
            rintro e w5 ⟨⟨a5, c5, rfl, hs5⟩, hb5⟩
            have hb5 : Below wr.heap.size wr w5 := (Below.refl _ _).drew.trans hb5
            have HX45 := hJ (hX43w.out.below hb5 hx43); have u0 := HX45.out.cell 0 _ rfl; have u1 := HX45.out.cell 1 _ rfl; have u2 := HX45.out.fz 0; have u3 := HX45.out.fz 1; have p0 := (hb5.cell (kCG e4)).trans e4
            have p1 := (hb5.cell (kCG e5)).trans e5))
        have HS5 := hJ hs5; clear hs5; have HX60 := hJ ((HX45.out.set 0 (.string rr)).set 1 (.slice a5 k c5)); have s0 := HX60.out.cell 0 _ rfl; have s1 := HX60.out.cell 1 _ rfl
        go_wp2_with fail
        refine bodyPost_ret (v := .tuple #[.agg #[.string rr, .slice a5 k c5], .int .i64 0]) (by simp [results, results120, go_sem, s0, s1]) rfl ?_
        refine ⟨⟨[.string rr, .slice a5 k c5], by rw [HZ2.out], ?_⟩, ?_⟩
        · rw [HZ1.out, HR.out]
          refine ⟨_, rfl, a5, c5, by rw [HKL.out], ?_⟩
          have h1 := HS5.out
          rw [show ({ row := rr, dims := s.dims.map (kAF b) } : Shp).dims.length = k from HKL.out]
          have hss : ∀ q, (w.heap.size + 2 ≤ q ∨ wr.heap.size ≤ q) → w.heap.size + 2 ≤ q := fun q hq => by omega
          refine (h1.frame fun q hq _ => ?_).mono (fun q hq _ => by have := hss q hq; omega)
          have := hss q hq
          rw [kAA (by show w.heap.size + 1 ≠ q; omega), kAA (by show w.heap.size + 1 ≠ q; omega)]
        · exact ((HBw.out.trans (hb5.mono HBw.out.size)).setCell (by show _ ≤ w.heap.size + 1; omega) _).setCell (by show _ ≤ w.heap.size + 1; omega) _
      · have HR : Hid (kCE b s = ⟨s.row, []⟩) := hJ (by rw [HRow.out, if_neg he, if_neg hq])
        have hq2 : kBA b 2 s.row < 0 := by omega
        have HCM := hJ (kF8 (T := All) s.row none 0 (s.dims.map (kAF b)) av k cv wr (Sl.empty _ _ _) HSv.out hd6); clear hq he HFnd HRow
        generalize kBA b 2 s.row = q at *
        go_wp2_with fail
        refine (HCF.out).mono ?_
        rintro e _ ⟨rfl, rfl⟩
        go_wp2_with fail
        refine HCM.out.mono ?_
        rintro e w5 ⟨⟨a5, c5, rfl, hs5⟩, hb5⟩
        have HX45 := hJ (hX43w.out.below hb5 hx43); have u0 := HX45.out.cell 0 _ rfl; have u1 := HX45.out.cell 1 _ rfl; have u2 := HX45.out.fz 0; have u3 := HX45.out.fz 1; have HS5 := hJ hs5; clear hs5; have HX60 := hJ ((HX45.out.set 0 (.string s.row)).set 1 (.slice a5 k c5)); have s0 := HX60.out.cell 0 _ rfl; have s1 := HX60.out.cell 1 _ rfl
        go_wp2_with fail
        refine bodyPost_ret (v := .tuple #[.agg #[.string s.row, .slice a5 k c5], .int .i64 0]) (by simp [results, results120, go_sem, s0, s1]) rfl ?_
        refine ⟨⟨[.string s.row, .slice a5 k c5], by rw [HZ2.out], ?_⟩, ?_⟩
        · rw [HZ1.out, HR.out]
          refine ⟨_, rfl, a5, c5, by rw [HKL.out], ?_⟩
          have h1 := HS5.out
          rw [show ({ row := s.row, dims := s.dims.map (kAF b) } : Shp).dims.length = k from HKL.out]
          have hss : ∀ q, (w.heap.size + 2 ≤ q ∨ wr.heap.size ≤ q) → w.heap.size + 2 ≤ q := fun q hq => by omega
          refine (h1.frame fun q hq _ => ?_).mono (fun q hq _ => by have := hss q hq; omega)
          have := hss q hq
          rw [kAA (by show w.heap.size + 1 ≠ q; omega), kAA (by show w.heap.size + 1 ≠ q; omega)]
        · exact ((HBw.out.trans (hb5.mono HBw.out.size)).setCell (by show _ ≤ w.heap.size + 1; omega) _).setCell (by show _ ≤ w.heap.size + 1; omega) _
theorem typ_shp {x : Typ} (h : kAK x = true) : kAL x.shape = true := by unfold kAK at h; rw [Bool.and_eq_true] at h; exact h.2
theorem kC2 {b : List Bnd} {x : Typ} (h : kA5 b x.shape = true) : subTyp b x = kAX b x ∧ kCN b x.shape = 0 ∧ kFT b x.shape = kF4 b x.shape := by
 unfold subTyp kCN kFT
 rw [h]
 exact ⟨rfl, rfl, rfl⟩
theorem kBT {b : List Bnd} {x : Typ} (h : kA5 b x.shape = false) : subTyp b x = kDL ∧ kCN b x.shape = 3 ∧ kFT b x.shape = noShp := by
 unfold subTyp kCN kFT
 rw [h]
 exact ⟨rfl, rfl, rfl⟩
theorem find_nat {b : List Bnd} {k : Int} {v : Str} (q : 0 ≤ kBA b k v) : ∃ i : Nat, kBA b k v = (i : Int) ∧ i < b.length := by
 unfold kBA idx at q ⊢
 by_cases ha : b.any (isB k v) = true
 · rw [if_pos ha] at q ⊢
   exact ⟨b.findIdx (isB k v), rfl, (kFH ha).1⟩
 · rw [if_neg ha] at q; omega
theorem Sl.set {α : Type} {R : Rep α} {S : Blk} {w : World} {a : Option Addr} {n c : Nat} {l : List α} (h : Sl R S w a n c l) {ad : Addr} {u : Value} (hne : ∀ q, S q → ad.block ≠ q) : Sl R S (w.setCell ad u) a n c l := h.frame (fun q hq _ => kAA (hne q hq))
theorem types_Subst {S T : Blk} {x : Typ} {cs : List Value} {w : World} (h : RTyp.rd S w cs x) (hv : kAK x = true) (b : List Bnd) (a : Option Addr) (nb cb : Nat) (hbs : Sl RBnd T w a nb cb b) (hb : kBG b = true) (hp : kEZ b) (E : Env w) :
 Calls Tryz.prog 105 #[.agg cs.toArray, .slice a nb cb] w fun e w' => (∃ ds, e = .returned (.tuple #[.agg ds.toArray, .int .i64 (kCN b x.shape)]) ∧ RTyp.rd (fun k => w.heap.size ≤ k) w' ds (subTyp b x)) ∧ Below w.heap.size w w' := by
 have hvs := typ_shp hv
 have HCV : Hid (∀ W, Below w.heap.size w W → Calls Tryz.prog 76 #[.agg cs.toArray] W fun e w' => e = .returned (.bool true) ∧ Below W.heap.size W w') :=
  hJ (fun W hW => hv ▸ kEK (RTyp.below h hW) (typ_sz hv) (E.below hW))
 have HCB : Hid (∀ W, Below w.heap.size w W → Calls Tryz.prog 104 #[.slice a nb cb] W fun e w' => e = .returned (.bool true) ∧ Below W.heap.size W w') :=
  hJ (fun W hW => kDB b a nb cb W (hbs.below hW) hb (E.below hW))
 have HCS := hJ (fun (W : World) (hW : Below w.heap.size w W) => shape_Subst (S := S) (s := x.shape) (cs := (cs.drop 1)) (w := W) (by obtain ⟨t, rfl, ht⟩ := h; exact ⟨t, rfl, ht⟩ |> fun q => RShp.below q hW) hvs b a nb cb (hbs.below hW) hb hp (E.below hW))
 obtain ⟨_, rfl, ad, cd, rfl, hds⟩ := h; have HBS := hJ hbs; clear hds hbs hv hb hp; obtain ⟨B0, ya, yb, hW0⟩ := box2 w 39 [.string x.elem, .string x.shape.row, .slice ad x.shape.dims.length cd] 39 [.string ⟨#[]⟩, .string ⟨#[]⟩, .slice none 0 0]; have xa0 := box0 ya 0 _ rfl; have xa1 := box0 ya 1 _ rfl; have xa2 := box0 ya 2 _ rfl; have xb0 := box0 yb 0 _ rfl; have xb1 := box0 yb 1 _ rfl; have xb2 := box0 yb 2 _ rfl
 have bka : Bx _ _ _ _ := ya; have bkb : Bx _ _ _ _ := yb
 clear ya yb
 generalize x.shape.dims.length = nd at *
 have HA0 := hJ bka; have HR0 := hJ bkb; clear bka bkb
 go_enter func105, ntmps105
 go_wp2_with fail
 refine (HCV.out _ B0.out).mono ?_
 rintro e w1 ⟨rfl, hb1⟩
 have hW1 := B0.out.trans (hb1.mono B0.out.size)
 go_wp2_with fail
 refine (HCB.out _ hW1).mono ?_
 rintro e w2 ⟨rfl, hb2⟩
 have HW := hJ (hW1.trans (hb2.mono hW1.size)); have HA2 := hJ ((HA0.out.below hb1 HA0.out.lt).below hb2 (HA0.out.below hb1 HA0.out.lt).lt); have HR2 := hJ ((HR0.out.below hb1 HR0.out.lt).below hb2 (HR0.out.below hb1 HR0.out.lt).lt); have y0 := HA2.out.cell 0 _ rfl; have y1 := HA2.out.cell 1 _ rfl; have y2 := HA2.out.cell 2 _ rfl; have hl2 := HR2.out.lt; clear xa0 xa1 xa2 xb0 xb1 xb2 hb1 hb2 hW1 HR0 HA0 B0 HCV HCB
 go_wp2_with fail
 refine (HCS.out _ HW.out).mono ?_
 rintro e w3 ⟨⟨_, rfl, hr3⟩, hb3⟩
 obtain ⟨_, rfl, a5, c5, rfl, hs5⟩ := hr3; have HW3 := hJ (HW.out.trans (hb3.mono HW.out.size)); have HA3 := hJ (HA2.out.below hb3 HA2.out.lt); have HR3 := hJ (HR2.out.below hb3 HR2.out.lt)
 have HS3 := hJ (hs5.mono (S' := fun k => w.heap.size + 2 ≤ k ∧ k < w3.heap.size) (fun q hq hlt => by have hq : w2.heap.size ≤ q := hq; exact ⟨by omega, hlt⟩))
 have hl3 := HR3.out.lt; clear hs5 hb3 HA2 HR2 y0 y1 y2 HCS HW hW0
 cases hok : kA5 b x.shape with
 | false =>
    have HF : Hid (subTyp b x = kDL ∧ kCN b x.shape = 3) := hJ ⟨(kBT hok).1, (kBT hok).2.1⟩
    have u0 := HR3.out.fz 0; have u1 := HR3.out.fz 1; have u2 := HR3.out.fz 2; have v0 := HR3.out.cell 0 _ rfl; have v1 := HR3.out.cell 1 _ rfl; have v2 := HR3.out.cell 2 _ rfl; have HX60 := hJ (((HR3.out.set 0 (.string ⟨#[]⟩)).set 1 (.string ⟨#[]⟩)).set 2 (.slice none 0 0)); have s0 := HX60.out.cell 0 _ rfl; have s1 := HX60.out.cell 1 _ rfl; have s2 := HX60.out.cell 2 _ rfl
    rw [(kBT hok).2.2] at HS3 ⊢
    rw [(kBT hok).2.1]; clear hok
    go_wp2_with fail
    refine bodyPost_ret (v := .tuple #[.agg #[.string ⟨#[]⟩, .string ⟨#[]⟩, .slice none 0 0], .int .i64 3]) (by simp [results, results105, go_sem, s0, s1, s2, hl3]) rfl ?_
    refine ⟨⟨_, by rw [HF.out.2], by rw [HF.out.1]; exact ⟨_, rfl, none, 0, rfl, Sl.empty _ _ _⟩⟩, ?_⟩
    exact (((HW3.out.setCell (by show _ ≤ w.heap.size + 1; omega) _).setCell (by show _ ≤ w.heap.size + 1; omega) _).setCell (by show _ ≤ w.heap.size + 1; omega) _).alloc (by simp; omega) _
 | true =>
    obtain ⟨z1, z2, z3⟩ := kC2 hok
    rw [z3] at HS3 ⊢
    have HE := hJ z2; rw [z2]; have HF := hJ z1; clear z1 z2 z3 hok; obtain ⟨er, ed⟩ : ∃ q, q = kF4 b x.shape := ⟨_, rfl⟩
    have HSh : Hid ((kAX b x).elem = subEl b x.elem ∧ (kAX b x).shape = er) := hJ ⟨rfl, ed.symm⟩
    rw [← ed] at HS3 ⊢
    clear ed
    have hA3 : Below w3.heap.size w3 (w3.alloc (.cells #[.string er.row, .slice a5 er.dims.length c5] 37)) := (Below.refl _ _).alloc (Nat.le_refl _) _
    have HW4 := hJ (HW3.out.trans (hA3.mono HW3.out.size)); have HCF := hJ (types_find b a nb cb _ (HBS.out.below HW4.out) 3 x.elem); have y9 := HA3.out.cell 0 _ rfl; have hl9 := HA3.out.lt
    go_wp2_with fail
    refine HCF.out.mono ?_
    rintro e w6 ⟨rfl, hb6⟩
    have HW6 := hJ (HW4.out.trans (hb6.mono HW4.out.size)); have HA6 := hJ ((HA3.out.alloc _).below hb6 (HA3.out.alloc _).lt); have HR6 := hJ ((HR3.out.alloc _).below hb6 (HR3.out.alloc _).lt); have HT6 := hJ ((Bx.fresh w3 37 [.string er.row, .slice a5 er.dims.length c5]).below hb6 (Bx.fresh _ _ _).lt); have HS6 := hJ ((HS3.out.below hA3).below hb6); have hl6 := HR6.out.lt; have ha6 := HA6.out.lt; have ht6 := HT6.out.lt; have u0 := HR6.out.fz 0; have u1 := HR6.out.fz 1; have u2 := HR6.out.fz 2; have v0 := HR6.out.cell 0 _ rfl; have v1 := HR6.out.cell 1 _ rfl; have v2 := HR6.out.cell 2 _ rfl; have t0 := HT6.out.cell 0 _ rfl; have t1 := HT6.out.cell 1 _ rfl; clear hb6 y9 hl9 HA3 HR3 HS3 hA3 HW4; have y0 := HA6.out.cell 0 _ rfl
    by_cases hq : 0 ≤ kBA b 3 x.elem
    · obtain ⟨kk, hkk, hkl⟩ := find_nat hq
      have hkn : kk < nb := by rw [← HBS.out.len]; exact hkl
      have HEl : Hid (subEl b x.elem = (b.getD kk default).elem) := hJ (by unfold subEl; rw [if_pos hq, hkk]; rfl)
      rw [hkk]; clear hq hkk; obtain ⟨bb, boff, rfl, hbb, hSb⟩ := HBS.out.form kk hkn; obtain ⟨td, dd, hr, ⟨⟨at1, ct1, rfl, _⟩, ⟨ad1, cd1, rfl, hrd⟩⟩, e0, e1, e2, e3, e4, e5, e6⟩ := (HBS.out.below HW6.out).bnd kk hkn
      generalize (b.getD kk default).elem = ee at *
      clear hr e0 e1 e2 e3 e4 e5 hrd; have r0 := HA6.out.fz 0
      have hkn2 : (kk : Int) < (nb : Int) := by omega
      have HR7 := hJ (HR6.out.other (a := ⟨w.heap.size, 0, none⟩) (u := .string ee) (by show w.heap.size ≠ _; omega))
      have HX60 := hJ (((HR7.out.set 0 (.string ee)).set 1 (.string er.row)).set 2 (.slice a5 er.dims.length c5)); have s0 := HX60.out.cell 0 _ rfl; have s1 := HX60.out.cell 1 _ rfl; have s2 := HX60.out.cell 2 _ rfl
      go_wp2_with fail
      refine bodyPost_ret (v := .tuple #[.agg #[.string ee, .string er.row, .slice a5 er.dims.length c5], .int .i64 0]) (by simp [results, results105, go_sem, s0, s1, s2, hl6]) rfl ?_
      refine ⟨⟨[.string ee, .string er.row, .slice a5 er.dims.length c5], by rw [HE.out], ?_⟩, ?_⟩
      · rw [HF.out]
        refine ⟨.slice a5 er.dims.length c5, by rw [HSh.out.1, HSh.out.2, HEl.out], a5, c5, by rw [HSh.out.2], ?_⟩
        rw [HSh.out.2]
        refine Sl.mono (S := fun k => w.heap.size + 2 ≤ k ∧ k < w3.heap.size) ?_ (fun q hq _ => by have hq := hq.1; omega)
        repeat (first | exact HS6.out | refine Sl.set ?_ (fun q hq => by have hq : w.heap.size + 2 ≤ q ∧ q < w3.heap.size := hq; first | (show w.heap.size + 1 ≠ q; omega) | (show w.heap.size ≠ q; omega) | (show w3.heap.size + 1 ≠ q; omega)))
      · repeat (first | exact HW6.out | refine Below.setCell ?_ (by first | (show _ ≤ w.heap.size + 1; omega) | exact Nat.le_refl _ | (show _ ≤ w3.heap.size + 1; omega)) _)
    · have hq2 : kBA b 3 x.elem < 0 := by omega
      have HEl : Hid (subEl b x.elem = x.elem) := hJ (by unfold subEl; rw [if_neg hq])
      clear hq
      generalize kBA b 3 x.elem = q at *
      have HX60 := hJ (((HR6.out.set 0 (.string x.elem)).set 1 (.string er.row)).set 2 (.slice a5 er.dims.length c5)); have s0 := HX60.out.cell 0 _ rfl; have s1 := HX60.out.cell 1 _ rfl; have s2 := HX60.out.cell 2 _ rfl
      go_wp2_with fail
      refine bodyPost_ret (v := .tuple #[.agg #[.string x.elem, .string er.row, .slice a5 er.dims.length c5], .int .i64 0]) (by simp [results, results105, go_sem, s0, s1, s2, hl6]) rfl ?_
      refine ⟨⟨[.string x.elem, .string er.row, .slice a5 er.dims.length c5], by rw [HE.out], ?_⟩, ?_⟩
      · rw [HF.out]
        refine ⟨.slice a5 er.dims.length c5, by rw [HSh.out.1, HSh.out.2, HEl.out], a5, c5, by rw [HSh.out.2], ?_⟩
        rw [HSh.out.2]
        refine Sl.mono (S := fun k => w.heap.size + 2 ≤ k ∧ k < w3.heap.size) ?_ (fun q hq _ => by have hq := hq.1; omega)
        repeat (first | exact HS6.out | refine Sl.set ?_ (fun q hq => by have hq : w.heap.size + 2 ≤ q ∧ q < w3.heap.size := hq; first | (show w.heap.size + 1 ≠ q; omega) | (show w.heap.size ≠ q; omega) | (show w3.heap.size + 1 ≠ q; omega)))
      · repeat (first | exact HW6.out | refine Below.setCell ?_ (by first | (show _ ≤ w.heap.size + 1; omega) | exact Nat.le_refl _ | (show _ ≤ w3.heap.size + 1; omega)) _)
theorem ref12_Subst {S T : Blk} {x : Typ} {cs : List Value} {w : World} (h : RTyp.rd S w cs x) (hv : kAK x = true) (b : List Bnd) (a : Option Addr) (nb cb : Nat) (hbs : Sl RBnd T w a nb cb b) (hb : kBG b = true) (hp : kEZ b) :
 Calls Tryz.prog 69 #[.agg cs.toArray, .slice a nb cb] w fun e w' => (∃ ds, e = .returned (.tuple #[.agg ds.toArray, .int .i64 (kCN b x.shape)]) ∧ RTyp.rd (fun k => w.heap.size ≤ k) w' ds (subTyp b x)) ∧ Below w.heap.size w w' := by
 have hvs := typ_shp hv
 have HCV : Hid (∀ W, Below w.heap.size w W → Calls Tryz.prog 66 #[.agg cs.toArray] W fun e w' => e = .returned (.bool true) ∧ Below W.heap.size W w') :=
  hJ (fun W hW => hv ▸ kF7 (RTyp.below h hW) (typ_sz hv))
 have HCB : Hid (∀ W, Below w.heap.size w W → Calls Tryz.prog 68 #[.slice a nb cb] W fun e w' => e = .returned (.bool true) ∧ Below W.heap.size W w') :=
  hJ (fun W hW => kDC b a nb cb W (hbs.below hW) hb)
 have HCS := hJ (fun (W : World) (hW : Below w.heap.size w W) => ref11_Subst (S := S) (s := x.shape) (cs := (cs.drop 1)) (w := W) (by obtain ⟨t, rfl, ht⟩ := h; exact ⟨t, rfl, ht⟩ |> fun q => RShp.below q hW) hvs b a nb cb (hbs.below hW) hb hp)
 obtain ⟨_, rfl, ad, cd, rfl, hds⟩ := h; have HBS := hJ hbs; clear hds hbs hv hb hp; obtain ⟨B0, ya, yb, hW0⟩ := box2 w 39 [.string x.elem, .string x.shape.row, .slice ad x.shape.dims.length cd] 39 [.string ⟨#[]⟩, .string ⟨#[]⟩, .slice none 0 0]; have xa0 := box0 ya 0 _ rfl; have xa1 := box0 ya 1 _ rfl; have xa2 := box0 ya 2 _ rfl; have xb0 := box0 yb 0 _ rfl; have xb1 := box0 yb 1 _ rfl; have xb2 := box0 yb 2 _ rfl
 have bka : Bx _ _ _ _ := ya; have bkb : Bx _ _ _ _ := yb
 clear ya yb
 generalize x.shape.dims.length = nd at *
 have HA0 := hJ bka; have HR0 := hJ bkb; clear bka bkb
 go_enter func69, ntmps69
 go_wp2_with fail
 refine (HCV.out _ B0.out).mono ?_
 rintro e w1 ⟨rfl, hb1⟩
 have hW1 := B0.out.trans (hb1.mono B0.out.size)
 go_wp2_with fail
 refine (HCB.out _ hW1).mono ?_
 rintro e w2 ⟨rfl, hb2⟩
 have HW := hJ (hW1.trans (hb2.mono hW1.size)); have HA2 := hJ ((HA0.out.below hb1 HA0.out.lt).below hb2 (HA0.out.below hb1 HA0.out.lt).lt); have HR2 := hJ ((HR0.out.below hb1 HR0.out.lt).below hb2 (HR0.out.below hb1 HR0.out.lt).lt); have y0 := HA2.out.cell 0 _ rfl; have y1 := HA2.out.cell 1 _ rfl; have y2 := HA2.out.cell 2 _ rfl; have hl2 := HR2.out.lt; clear xa0 xa1 xa2 xb0 xb1 xb2 hb1 hb2 hW1 HR0 HA0 B0 HCV HCB
 go_wp2_with fail
 refine (HCS.out _ HW.out).mono ?_
 rintro e w3 ⟨⟨_, rfl, hr3⟩, hb3⟩
 obtain ⟨_, rfl, a5, c5, rfl, hs5⟩ := hr3; have HW3 := hJ (HW.out.trans (hb3.mono HW.out.size)); have HA3 := hJ (HA2.out.below hb3 HA2.out.lt); have HR3 := hJ (HR2.out.below hb3 HR2.out.lt)
 have HS3 := hJ (hs5.mono (S' := fun k => w.heap.size + 2 ≤ k ∧ k < w3.heap.size) (fun q hq hlt => by have hq : w2.heap.size ≤ q := hq; exact ⟨by omega, hlt⟩))
 have hl3 := HR3.out.lt; clear hs5 hb3 HA2 HR2 y0 y1 y2 HCS HW hW0
 cases hok : kA5 b x.shape with
 | false =>
    have HF : Hid (subTyp b x = kDL ∧ kCN b x.shape = 3) := hJ ⟨(kBT hok).1, (kBT hok).2.1⟩
    have u0 := HR3.out.fz 0; have u1 := HR3.out.fz 1; have u2 := HR3.out.fz 2; have v0 := HR3.out.cell 0 _ rfl; have v1 := HR3.out.cell 1 _ rfl; have v2 := HR3.out.cell 2 _ rfl; have HX60 := hJ (((HR3.out.set 0 (.string ⟨#[]⟩)).set 1 (.string ⟨#[]⟩)).set 2 (.slice none 0 0)); have s0 := HX60.out.cell 0 _ rfl; have s1 := HX60.out.cell 1 _ rfl; have s2 := HX60.out.cell 2 _ rfl
    rw [(kBT hok).2.2] at HS3 ⊢
    rw [(kBT hok).2.1]; clear hok
    go_wp2_with fail
    refine bodyPost_ret (v := .tuple #[.agg #[.string ⟨#[]⟩, .string ⟨#[]⟩, .slice none 0 0], .int .i64 3]) (by simp [results, results69, go_sem, s0, s1, s2, hl3]) rfl ?_
    refine ⟨⟨_, by rw [HF.out.2], by rw [HF.out.1]; exact ⟨_, rfl, none, 0, rfl, Sl.empty _ _ _⟩⟩, ?_⟩
    exact (((HW3.out.setCell (by show _ ≤ w.heap.size + 1; omega) _).setCell (by show _ ≤ w.heap.size + 1; omega) _).setCell (by show _ ≤ w.heap.size + 1; omega) _).alloc (by simp; omega) _
 | true =>
    obtain ⟨z1, z2, z3⟩ := kC2 hok
    rw [z3] at HS3 ⊢
    have HE := hJ z2; rw [z2]; have HF := hJ z1; clear z1 z2 z3 hok; obtain ⟨er, ed⟩ : ∃ q, q = kF4 b x.shape := ⟨_, rfl⟩
    have HSh : Hid ((kAX b x).elem = subEl b x.elem ∧ (kAX b x).shape = er) := hJ ⟨rfl, ed.symm⟩
    rw [← ed] at HS3 ⊢
    clear ed; obtain ⟨w4, hw4⟩ : ∃ q, q = (w3.alloc (.cells #[.string er.row, .slice a5 er.dims.length c5] 37)).alloc (.cells #[.string x.elem, .string er.row, .slice a5 er.dims.length c5] 39) := ⟨_, rfl⟩
    have hA3 : Below w3.heap.size w3 w4 := by rw [hw4]; exact ((Below.refl _ _).alloc (Nat.le_refl _) _).alloc (by simp) _
    have HW6 := hJ (HW3.out.trans (hA3.mono HW3.out.size)); have HCF := hJ (kEA b a nb cb w4 (HBS.out.below HW6.out) 3 x.elem); have y9 := HA3.out.cell 0 _ rfl; have hl9 := HA3.out.lt
    have HA6 : Hid (Bx w4 _ _ _) := hJ (hw4 ▸ (HA3.out.alloc _).alloc _)
    have HR6 : Hid (Bx w4 _ _ _) := hJ (hw4 ▸ (HR3.out.alloc _).alloc _)
    have HT6 : Hid (Bx w4 (w3.heap.size + 1) 39 [.string x.elem, .string er.row, .slice a5 er.dims.length c5]) := hJ (by
     have := Bx.fresh (w3.alloc (.cells #[.string er.row, .slice a5 er.dims.length c5] 37)) 39 [.string x.elem, .string er.row, .slice a5 er.dims.length c5]
     rw [hw4]; simpa using this)
    have HS6 := hJ (HS3.out.below hA3); have hl6 := HR6.out.lt; have ha6 := HA6.out.lt; have ht6 := HT6.out.lt; have u0 := HR6.out.fz 0; have u1 := HR6.out.fz 1; have u2 := HR6.out.fz 2; have v0 := HR6.out.cell 0 _ rfl; have v1 := HR6.out.cell 1 _ rfl; have v2 := HR6.out.cell 2 _ rfl; have t0 := HT6.out.cell 0 _ rfl; have t1 := HT6.out.cell 1 _ rfl; have t2 := HT6.out.cell 2 _ rfl
    have hfold : (w3.alloc (.cells #[.string er.row, .slice a5 er.dims.length c5] 37)).alloc (.cells #[.string x.elem, .string er.row, .slice a5 er.dims.length c5] 39) = w4 := hw4.symm
    clear hA3 HA3 HR3 HS3 hw4; have y0 := HA6.out.cell 0 _ rfl
    by_cases hq : 0 ≤ kBA b 3 x.elem
    · obtain ⟨kk, hkk, hkl⟩ := find_nat hq
      have hkn : kk < nb := by rw [← HBS.out.len]; exact hkl
      have HEl : Hid (subEl b x.elem = (b.getD kk default).elem) := hJ (by unfold subEl; rw [if_pos hq, hkk]; rfl)
      rw [hkk] at HCF; clear hq hkk; obtain ⟨bb, boff, rfl, hbb, hSb⟩ := HBS.out.form kk hkn; obtain ⟨td, dd, hr, ⟨⟨at1, ct1, rfl, _⟩, ⟨ad1, cd1, rfl, hrd⟩⟩, e0, e1, e2, e3, e4, e5, e6⟩ := (HBS.out.below HW6.out).bnd kk hkn
      generalize (b.getD kk default).elem = ee at *
      clear hr e0 e1 e2 e3 e4 e5 hrd
      have hkn2 : (kk : Int) < (nb : Int) := by omega
      have r0 := HT6.out.fz 0
      have HR7 := hJ (HR6.out.other (a := ⟨w3.heap.size + 1, 0, none⟩) (u := .string ee) (by show w3.heap.size + 1 ≠ _; omega))
      go_wp2_with fail
      refine (HCF.out).mono ?_
      rintro e _ ⟨rfl, rfl⟩
      go_wp2_with fail
      have HX60 := hJ (((HR7.out.set 0 (.string ee)).set 1 (.string er.row)).set 2 (.slice a5 er.dims.length c5)); have s0 := HX60.out.cell 0 _ rfl; have s1 := HX60.out.cell 1 _ rfl; have s2 := HX60.out.cell 2 _ rfl
      go_wp2_with fail
      refine bodyPost_ret (v := .tuple #[.agg #[.string ee, .string er.row, .slice a5 er.dims.length c5], .int .i64 0]) (by simp [results, results69, go_sem, s0, s1, s2, hl6]) rfl ?_
      refine ⟨⟨[.string ee, .string er.row, .slice a5 er.dims.length c5], by rw [HE.out], ?_⟩, ?_⟩
      · rw [HF.out]
        refine ⟨.slice a5 er.dims.length c5, by rw [HSh.out.1, HSh.out.2, HEl.out], a5, c5, by rw [HSh.out.2], ?_⟩
        rw [HSh.out.2]
        refine Sl.mono (S := fun k => w.heap.size + 2 ≤ k ∧ k < w3.heap.size) ?_ (fun q hq _ => by have hq := hq.1; omega)
        repeat (first | exact HS6.out | refine Sl.set ?_ (fun q hq => by have hq : w.heap.size + 2 ≤ q ∧ q < w3.heap.size := hq; first | (show w.heap.size + 1 ≠ q; omega) | (show w.heap.size ≠ q; omega) | (show w3.heap.size + 1 ≠ q; omega)))
      · repeat (first | exact HW6.out | refine Below.setCell ?_ (by first | (show _ ≤ w.heap.size + 1; omega) | exact Nat.le_refl _ | (show _ ≤ w3.heap.size + 1; omega)) _)
    · have hq2 : kBA b 3 x.elem < 0 := by omega
      have HEl : Hid (subEl b x.elem = x.elem) := hJ (by unfold subEl; rw [if_neg hq])
      clear hq
      generalize kBA b 3 x.elem = q at *
      go_wp2_with fail
      refine (HCF.out).mono ?_
      rintro e _ ⟨rfl, rfl⟩
      go_wp2_with fail
      have HX60 := hJ (((HR6.out.set 0 (.string x.elem)).set 1 (.string er.row)).set 2 (.slice a5 er.dims.length c5)); have s0 := HX60.out.cell 0 _ rfl; have s1 := HX60.out.cell 1 _ rfl; have s2 := HX60.out.cell 2 _ rfl
      go_wp2_with fail
      refine bodyPost_ret (v := .tuple #[.agg #[.string x.elem, .string er.row, .slice a5 er.dims.length c5], .int .i64 0]) (by simp [results, results69, go_sem, s0, s1, s2, hl6]) rfl ?_
      refine ⟨⟨[.string x.elem, .string er.row, .slice a5 er.dims.length c5], by rw [HE.out], ?_⟩, ?_⟩
      · rw [HF.out]
        refine ⟨.slice a5 er.dims.length c5, by rw [HSh.out.1, HSh.out.2, HEl.out], a5, c5, by rw [HSh.out.2], ?_⟩
        rw [HSh.out.2]
        refine Sl.mono (S := fun k => w.heap.size + 2 ≤ k ∧ k < w3.heap.size) ?_ (fun q hq _ => by have hq := hq.1; omega)
        repeat (first | exact HS6.out | refine Sl.set ?_ (fun q hq => by have hq : w.heap.size + 2 ≤ q ∧ q < w3.heap.size := hq; first | (show w.heap.size + 1 ≠ q; omega) | (show w.heap.size ≠ q; omega) | (show w3.heap.size + 1 ≠ q; omega)))
      · repeat (first | exact HW6.out | refine Below.setCell ?_ (by first | (show _ ≤ w.heap.size + 1; omega) | exact Nat.le_refl _ | (show _ ≤ w3.heap.size + 1; omega)) _)
theorem addAll_kinds {p : Int → Prop} (h1 : p 1) : ∀ (ns : List Str) (l : List Bnd), (∀ y ∈ l, p y.kind) → ∀ y ∈ addAll l ns, p y.kind
 | [], l, h => h
 | n :: ns, l, h => addAll_kinds h1 ns (addV l 1 n) (fun y hy => by
   unfold addV at hy
   split at hy
   · exact h y hy
   · rcases List.mem_append.1 hy with q | q
     · exact h y q
     · rw [List.mem_singleton.1 q]; exact h1)
theorem varsV_kinds (s : Shp) : ∀ y ∈ kCV s, y.kind ≠ 3 := by
 unfold kCV
 split
 · unfold varsS
   refine addAll_kinds (p := fun k => k ≠ 3) (by decide) _ _ ?_
   unfold rowV
   split
   · intro y hy; simp at hy
   · intro y hy
     unfold addV at hy
     split at hy
     · simp at hy
     · simp at hy; rw [hy]; show (2 : Int) ≠ 3; decide
 · intro y hy; simp at hy
theorem find_kind {l : List Bnd} {k : Int} (h : ∀ y ∈ l, y.kind ≠ k) (v : Str) : kBA l k v < 0 := by
 rw [kFE, List.any_eq_false]
 intro y hy
 unfold isB
 rw [beq_eq_false_iff_ne.2 (h y hy)]
 simp
theorem types_TypeVars {S : Blk} {x : Typ} {cs : List Value} {w : World} (h : RTyp.rd S w cs x) (hv : kAK x = true) (E : Env w) :
 Calls Tryz.prog 101 #[.agg cs.toArray] w fun e w' => (∃ v, e = .returned v ∧ Own RBnd 103 (fun _ => False) w' w.heap.size v (kBQ x)) ∧ Below w.heap.size w w' := by
 have HV : Hid (∀ W, Below w.heap.size w W → Calls Tryz.prog 76 #[.agg cs.toArray] W fun e w' => e = .returned (.bool true) ∧ Below W.heap.size W w') :=
  hJ (fun W hW => hv ▸ kEK (RTyp.below h hW) (typ_sz hv) (E.below hW))
 obtain ⟨t, rfl, a, c, rfl, hs⟩ := h
 have hez : x.elem.size ≤ 281474976710656 := Nat.le_trans (typ_sz hv).1 (by decide)
 have HC : Hid (∀ W, Below w.heap.size w W → Calls Tryz.prog 142 #[.agg #[.string x.shape.row, .slice a x.shape.dims.length c]] W fun e w' => (∃ v, e = .returned v ∧ Own RBnd 103 (fun _ => False) w' W.heap.size v (kCV x.shape)) ∧ Below W.heap.size W w') :=
  hJ (fun W hW => shape_Vars (S := S) (cs := [.string x.shape.row, .slice a x.shape.dims.length c]) ⟨_, rfl, a, c, rfl, hs.below hW⟩ (typ_shp hv) (E.below hW))
 have HLen := hJ (varsV_len x.shape)
 have HE : Hid (∀ W, Calls Tryz.prog 127 #[.string x.elem] W fun e w' => e = .returned (.bool (kAV x.elem)) ∧ Below W.heap.size W w') := hJ (fun W => kCP x.elem hez W)
 have HF0 : Hid (kBQ x = if kAV x.elem then addV (kCV x.shape) 3 x.elem else kCV x.shape) := hJ (by unfold kBQ; rw [hv]; rfl)
 have HN := hJ (addV_new (find_kind (varsV_kinds x.shape) x.elem)); clear hs hez hv E; obtain ⟨B0, ya, hW0⟩ := box1 w 39 [.string x.elem, .string x.shape.row, .slice a x.shape.dims.length c]; have xa0 := box0 ya 0 _ rfl; have xa1 := box0 ya 1 _ rfl; have xa2 := box0 ya 2 _ rfl
 have bka : Bx _ _ _ _ := ya
 clear ya; have HBk := hJ bka; clear bka
 generalize kAV x.elem = q at *
 generalize kCV x.shape = l at *
 cases q with
 | true =>
   have HF : Hid (kBQ x = l ++ [bare 3 x.elem]) := hJ (by rw [HF0.out, ← HN.out]; rfl)
   clear HF0
   go_enter func101, ntmps101
   go_wp2_with fail
   refine (HV.out _ B0.out).mono ?_
   rintro e w1 ⟨rfl, hb⟩
   have HB1 := hJ (HBk.out.below hb (by simp))
   have y0 := HB1.out.cell 0 _ rfl; have y1 := HB1.out.cell 1 _ rfl; have y2 := HB1.out.cell 2 _ rfl; have HW := hJ (B0.out.trans (hb.mono B0.out.size)); clear xa0 xa1 xa2
   go_wp2_with fail
   refine (HC.out _ HW.out).mono ?_
   rintro e w2 ⟨⟨v, rfl, hown⟩, hb2⟩
   have HO := hJ hown; obtain ⟨a2, m2, c2, rfl⟩ := hown.shape; have hl1 := HB1.out.lt; have HB2 := hJ (HB1.out.below hb2 hl1); have z0 := HB2.out.cell 0 _ rfl; clear hown y0 y1 y2
   go_wp2_with fail
   refine (HE.out _).mono ?_
   rintro e w3 ⟨rfl, hb3⟩
   have HB3 := hJ (HB2.out.below hb3 HB2.out.lt); have u0 := HB3.out.cell 0 _ rfl; have hz2 := hb2.size; have hz3 := hb3.size
   go_wp2_with (at_builtin; refine kA8 kD4 rfl _ _ rfl w1.heap.size _ _ rfl ((HO.out.below hb3).alloc _) _ (bare 3 x.elem) [.int .i64 3, .string x.elem, .int .i64 0, .slice none 0 0, .string ⟨#[]⟩, .slice none 0 0, .string ⟨#[]⟩] rfl ⟨_, _, rfl, ⟨none, 0, rfl, Sl.empty _ _ _⟩, ⟨none, 0, rfl, Sl.empty _ _ _⟩⟩ (kA4 103 (by (simp only [kAG, kAE, Array.getElem?_push, Array.size_push]; simp))) (by have := HLen.out; omega) (by have := HLen.out; unfold maxLen; omega) (by simp; omega) ?_; intro v9 w9 hown9 hb9 hk9)
   go_ret
   exact ⟨⟨_, rfl, by rw [HF.out]; exact hown9.lower HW.out.size⟩, HW.out.trans (((hb2.trans (hb3.mono hz2)).alloc (by omega) _ |>.trans hb9).mono HW.out.size)⟩
 | false =>
   have HF : Hid (kBQ x = l) := hJ (by rw [HF0.out]; rfl)
   clear HF0
   go_enter func101, ntmps101
   go_wp2_with fail
   refine (HV.out _ B0.out).mono ?_
   rintro e w1 ⟨rfl, hb⟩
   have HB1 := hJ (HBk.out.below hb (by simp))
   have y0 := HB1.out.cell 0 _ rfl; have y1 := HB1.out.cell 1 _ rfl; have y2 := HB1.out.cell 2 _ rfl; have HW := hJ (B0.out.trans (hb.mono B0.out.size)); clear xa0 xa1 xa2
   go_wp2_with fail
   refine (HC.out _ HW.out).mono ?_
   rintro e w2 ⟨⟨v, rfl, hown⟩, hb2⟩
   have HO := hJ hown; obtain ⟨a2, m2, c2, rfl⟩ := hown.shape; have hl1 := HB1.out.lt; have HB2 := hJ (HB1.out.below hb2 hl1); have z0 := HB2.out.cell 0 _ rfl; clear hown y0 y1 y2
   go_wp2_with fail
   refine (HE.out _).mono ?_
   rintro e w3 ⟨rfl, hb3⟩
   go_wp2_with fail
   go_ret
   exact ⟨⟨_, rfl, by rw [HF.out]; exact (HO.out.below hb3).lower HW.out.size⟩, HW.out.trans ((hb2.trans (hb3.mono hb2.size)).mono HW.out.size)⟩
theorem types_Vars {S : Blk} {s : Sch} {cs : List Value} {w : World} (h : RSch.rd S w cs s) (hv : kAJ s = true) (E : Env w) :
 Calls Tryz.prog 55 #[.agg cs.toArray] w fun e w' => (∃ v, e = .returned v ∧ Own RBnd 103 (fun _ => False) w' w.heap.size v (kA1 s)) ∧ Below w.heap.size w w' := by
 have HV : Hid (∀ W, Below w.heap.size w W → Calls Tryz.prog 36 #[.agg cs.toArray] W fun e w' => e = .returned (.bool true) ∧ Below W.heap.size W w') :=
  hJ (fun W hW => hv ▸ kBX (RSch.below h hW) (sch_sz hv) (E.below hW))
 have HE := hJ (fun (W : World) (hW : Below w.heap.size w W) => E.below hW)
 have hsp := kAT hv; have HAV := hJ (kEI hv); have HWV := hJ hsp.2.2.2.2; have hpl := hsp.1; have hwl := hsp.2.1
 have HF : Hid (kA1 s = addAll (kBE (allT s)) (s.wh.flatMap kAN)) := hJ (by unfold kA1; rw [hv]; rfl)
 obtain ⟨p, t, q, rfl, ⟨ap, cp, rfl, hp⟩, ⟨at_, ct, rfl, ht⟩, ⟨aq, cq, rfl, hq⟩⟩ := h; have HP := hJ hp; have HT := hJ ht; have HQ := hJ hq
 have hAl : (allT s).length = s.params.length + 1 := by unfold allT; rw [List.length_append]; rfl
 have hAe : allT s = s.params ++ [s.result] := rfl
 have HAe := hJ hAe; clear hp ht hq hsp hv hAe
 generalize hn : s.params.length = n at *
 generalize hm : s.wh.length = m at *
 have HN := hJ hn; have HM := hJ hm; have HAl := hJ hAl; clear hn hm hAl; obtain ⟨B0, ya, hW0⟩ := box1 w 41 [.slice ap n cp, .string s.result.elem, .string s.result.shape.row, .slice at_ s.result.shape.dims.length ct, .slice aq m cq]; have xa0 := box0 ya 0 _ rfl; have xa1 := box0 ya 1 _ rfl; have xa2 := box0 ya 2 _ rfl; have xa3 := box0 ya 3 _ rfl; have xa4 := box0 ya 4 _ rfl
 have bka : Bx _ _ _ _ := ya
 clear ya; have HBk := hJ bka; clear bka
 go_enter func55, ntmps55
 go_wp2_with fail
 refine (HV.out _ B0.out).mono ?_
 rintro e w1 ⟨rfl, hb⟩
 have HB1 := hJ (HBk.out.below hb (by simp))
 have y0 := HB1.out.cell 0 _ rfl; have y1 := HB1.out.cell 1 _ rfl; have y2 := HB1.out.cell 2 _ rfl; have y3 := HB1.out.cell 3 _ rfl; have hl1 := HB1.out.lt; have HW := hJ (B0.out.trans (hb.mono B0.out.size)); clear xa0 xa1 xa2 xa3 xa4 hb
 have HA : Hid (Below w1.heap.size w1 ((w1.alloc (.cells #[.string s.result.elem, .string s.result.shape.row, .slice at_ s.result.shape.dims.length ct] 39)).alloc (.cells #[.slice ap n cp, .slice (some ⟨w1.heap.size, 0, none⟩) 1 1] 34))) := hJ (((Below.refl _ _).alloc (Nat.le_refl _) _).alloc (by simp) _)
 have HCat := hJ (concat_Typ (S1 := fun k => S k ∧ k < w.heap.size) (S2 := fun k => (S k ∧ k < w.heap.size) ∨ k = w1.heap.size) s.params [s.result] ap n cp (some ⟨w1.heap.size, 0, none⟩) 1 1 (w1.heap.size + 1) ((w1.alloc (.cells #[.string s.result.elem, .string s.result.shape.row, .slice at_ s.result.shape.dims.length ct] 39)).alloc (.cells #[.slice ap n cp, .slice (some ⟨w1.heap.size, 0, none⟩) 1 1] 34))
  (by have := Bx.fresh (w1.alloc (.cells #[.string s.result.elem, .string s.result.shape.row, .slice at_ s.result.shape.dims.length ct] 39)) 34 [.slice ap n cp, .slice (some ⟨w1.heap.size, 0, none⟩) 1 1]; simpa using this)
  ((HP.out.mono (fun k hk hlt => ⟨hk, hlt⟩)).below (HW.out.trans (HA.out.mono HW.out.size)))
  (Sl.single (cs := [.string s.result.elem, .string s.result.shape.row, .slice at_ s.result.shape.dims.length ct]) ((Bx.fresh w1 39 [.string s.result.elem, .string s.result.shape.row, .slice at_ s.result.shape.dims.length ct]).alloc _) ⟨_, rfl, at_, ct, rfl, (HT.out.mono (fun k hk hlt => .inl ⟨hk, hlt⟩)).below (HW.out.trans (HA.out.mono HW.out.size))⟩ (.inr rfl)) (by omega) (by omega))
 go_wp2_with fail
 refine HCat.out.mono ?_
 rintro e w2 ⟨⟨v, rfl, hown⟩, hb2⟩
 clear HCat; have HB2 := hJ (HA.out.trans (hb2.mono HA.out.size)); obtain ⟨al, cl, rfl, hsl⟩ := hown.sl; rw [← HAe.out, HAl.out] at hsl; have HLs := hJ hsl
 have hla : (s.params ++ [s.result]).length = n + 1 := by rw [← HAe.out]; exact HAl.out
 have hz2 := HB2.out.size; have HG2 := hJ (HB1.out.below HB2.out hl1); clear hown hsl hb2 y0 y1 y2 y3; rw [hla]; have HLa := hJ hla; clear hla; have HW2 := hJ (HW.out.trans (HB2.out.mono HW.out.size))
 go_wp2_with fail
 go_loopw [3, 21] (fun v i wr => ∃ (k : Nat) (v0 : Value), k ≤ n + 1 ∧ i = .int .i64 k ∧ v0 = v ∧ Hid (Own RBnd 103 (fun _ => False) wr w2.heap.size v (kBE ((allT s).take k))) ∧ Below w2.heap.size w2 wr) (fun _ i _ => n + 1 - (intOf i).toNat)
 case atStart => exact ⟨0, _, Nat.zero_le _, rfl, rfl, hJ (Own.nil _ _ _ _ _), Below.refl _ _⟩
 case round =>
  obtain ⟨k, v0, hk, rfl, rfl, HO, hB⟩ := hrel; have hsz := hB.size; obtain ⟨a0, m0, c0, rfl⟩ := HO.out.shape
  by_cases hlt : k < n + 1
  · obtain ⟨b, off, rfl, hbW, _⟩ := HLs.out.form k hlt
    have hkl : k < (allT s).length := by rw [HAl.out]; exact hlt
    obtain ⟨t, hr, ⟨ax, cx, rfl, hts⟩, e0, e1, e2⟩ := (HLs.out.below hB).typ k hlt; have HXv := hJ (HAV.out _ (kAI hkl)); have HNext := hJ (varsAll_next hkl)
    have HLen : Hid ((kBE ((allT s).take k)).length ≤ 2000) := hJ (by
     have q1 := kDI ((allT s).take k); rw [List.length_take] at q1
     omega)
    clear hkl
    generalize (allT s).getD k default = x at *
    have HCx := hJ (fun (W : World) (hW : Below wr.heap.size wr W) => types_TypeVars (RTyp.below hr hW) HXv.out (HE.out W (HW2.out.trans ((hB.trans (hW.mono hB.size)).mono HW2.out.size))))
    have HVl := hJ (varsTy_len x); have HVb := hJ (varsTy_inv HXv.out).bare; clear hr hts
    have HAx : Hid (Below wr.heap.size wr (wr.alloc (.cells #[.string x.elem, .string x.shape.row, .slice ax x.shape.dims.length cx] 39))) := hJ ((Below.refl _ _).alloc (Nat.le_refl _) _)
    go_wp2_with fail
    refine (HCx.out _ HAx.out).mono ?_
    rintro e w3 ⟨⟨v3, rfl, hown3⟩, hb3⟩
    obtain ⟨a3, c3, rfl, hs3, hA3⟩ := hown3.self; have HB3 := hJ (HAx.out.trans (hb3.mono HAx.out.size))
    have HW3 : Hid (Calls _ _ _ _ _) := hJ (types_with (HO.out.below HB3.out) (by have := HB3.out.size; omega) _ a3 _ c3 hs3 (fun q hq => ⟨(hA3 q hq).2, fun e => by have h1 := (HO.out.block e).2; have h2 := (hA3 q hq).1; simp at h2; omega⟩) HVb.out (by have := HLen.out; have := HVl.out; omega))
    have hz3 := HB3.out.size; clear hown3 hs3 hA3 hb3
    generalize kBQ x = vs at *
    generalize kBE ((allT s).take k) = l0 at *
    go_wp2_with fail
    refine HW3.out.mono ?_
    rintro e w4 ⟨⟨v4, rfl, hown4, _⟩, hb4⟩
    go_wp2_with fail
    go_roundw
    case rel => exact ⟨k + 1, _, by omega, by go_num, rfl, hJ (by rw [HNext.out]; exact hown4), (hB.trans (HB3.out.mono hsz)).trans hb4⟩
    case measure => simp [intOf]; omega
  · have HAll : Hid (kBE ((allT s).take k) = kBE (allT s)) := hJ (by rw [List.take_of_length_le (by rw [HAl.out]; omega)])
    have HO0 := hJ (HAll.out ▸ HO.out)
    have HG3 := hJ (HG2.out.below hB (by have := HG2.out.lt; omega))
    have g4 := HG3.out.cell 4 _ rfl; have HQ2 := hJ (HQ.out.below HW2.out)
    have HL0 : Hid ((kBE (allT s)).length ≤ 2000) := hJ (by
     have q1 := kDI (allT s); rw [HAl.out] at q1
     omega)
    clear HO HAll
    go_wp2_with fail
    go_loopw [3, 33] (fun v i wr => ∃ (j : Nat) (v0 : Value), j ≤ m ∧ i = .int .i64 j ∧ v0 = v ∧ Hid (Own RBnd 103 (fun _ => False) wr w2.heap.size v (addAll (kBE (allT s)) ((s.wh.take j).flatMap kAN))) ∧ Below w2.heap.size w2 wr) (fun _ i _ => m - (intOf i).toNat)
    case atStart => exact ⟨0, _, Nat.zero_le _, rfl, rfl, HO0, hB⟩
    case round =>
     obtain ⟨j, v0, hj, rfl, rfl, HO, hB2⟩ := hrel; have hsz2 := hB2.size; obtain ⟨a0, m0, c0, rfl⟩ := HO.out.shape
     by_cases hlj : j < m
     · obtain ⟨b2, off2, rfl, hbW2, _⟩ := HQ2.out.form j hlj
       have hjl : j < s.wh.length := by rw [HM.out]; exact hlj
       obtain ⟨t, hr, ⟨ax, cx, rfl, hts⟩, e0, e1⟩ := (HQ2.out.below hB2).lin j hlj; have hxv := HWV.out _ (kAI hjl); have HX := hJ (kBV hxv)
       have HNext : Hid ((s.wh.take (j + 1)).flatMap kAN = (s.wh.take j).flatMap kAN ++ kAN (s.wh.getD j default)) := hJ (by rw [kAU hjl, List.flatMap_append]; simp)
       have HLen : Hid ((addAll (kBE (allT s)) ((s.wh.take j).flatMap kAN)).length ≤ 3000) := hJ (by
        have q1 := kBO ((s.wh.take j).flatMap kAN) (kBE (allT s)); have q2 := HL0.out
        have q3 := kDU (s.wh.take j) (fun x hx => HWV.out x (List.mem_of_mem_take hx))
        rw [List.length_take] at q3
        omega)
       clear hjl hxv
       generalize s.wh.getD j default = x at *
       generalize hl0 : addAll (kBE (allT s)) ((s.wh.take j).flatMap kAN) = l0 at *
       have HL00 := hJ hl0; clear hl0
       have HC := hJ (fun (W : World) (hW : Below wr.heap.size wr W) => kGA x ax _ cx W (hts.below hW) (by have := HX.out; omega))
       clear hr hts
       have hvl : (kAN x).length = x.terms.length := varsL_len x
       have HVL := hJ hvl; clear hvl
       have HAx : Hid (Below wr.heap.size wr (wr.alloc (.cells #[.int .i64 x.const, .slice ax x.terms.length cx] 65))) := hJ ((Below.refl _ _).alloc (Nat.le_refl _) _)
       go_wp2_with fail
       refine (HC.out _ HAx.out).mono ?_
       rintro e w3 ⟨⟨v3, rfl, hown3⟩, hb3⟩
       obtain ⟨a3, c3, rfl, hs3, hA3⟩ := hown3.self; have HB3 := hJ (HAx.out.trans (hb3.mono HAx.out.size)); have hz3 := HB3.out.size
       have HT3 : Hid (Apart (At a3) w3 (.slice a0 m0 c0)) := hJ (fun q hq => ⟨(hA3 q hq).2, fun e => by have h1 := (HO.out.block e).2; have h2 := (hA3 q hq).1; simp at h2; omega⟩)
       have HS3 := hJ hs3; have HO3 := hJ (HO.out.below HB3.out); have HB23 := hJ (hB2.trans (HB3.out.mono hsz2)); clear hown3 hs3 hA3 hb3 HC HO e0 e1
       rw [HVL.out] at HS3 ⊢
       generalize hxl : x.terms.length = n3 at *
       have HXL := hJ hxl; clear hxl
       have hn3 : n3 ≤ 12 := by have := HX.out; omega
       go_wp2_with fail
       go_loopw [3, 40] (fun v i wr => ∃ (i3 : Nat) (v0 : Value), i3 ≤ n3 ∧ i = .int .i64 i3 ∧ v0 = v ∧ Hid (Own RBnd 103 (fun _ => False) wr w2.heap.size v (addAll l0 ((kAN x).take i3))) ∧ Hid (Sl RStr (At a3) wr a3 n3 c3 (kAN x)) ∧ Hid (Apart (At a3) wr v) ∧ Below w2.heap.size w2 wr) (fun _ i _ => n3 - (intOf i).toNat)
       case atStart => exact ⟨0, _, Nat.zero_le _, rfl, rfl, HO3, HS3, HT3, HB23.out⟩
       case round =>
        obtain ⟨i3, v0, hi3, rfl, rfl, HO, HS, HT, hB4⟩ := hrel; have hsz4 := hB4.size; obtain ⟨a0, m0, c0, rfl⟩ := HO.out.shape
        by_cases hl3 : i3 < n3
        · obtain ⟨b4, off4, rfl, hbW4, _⟩ := HS.out.form i3 hl3
          have f0 := HS.out.str i3 hl3
          have hk3 : i3 < x.terms.length := by rw [HXL.out]; exact hl3
          have HStep := hJ (kGH (l0 := l0) hk3)
          have hLen2 : (addAll l0 ((kAN x).take i3)).length ≤ 4000 := by
           have q1 := kBO ((kAN x).take i3) l0; have q2 := HLen.out; rw [List.length_take] at q1
           omega
          clear hk3
          generalize (kAN x).getD i3 default = y at *
          generalize addAll l0 ((kAN x).take i3) = l1 at *
          obtain ⟨w7, hfold7⟩ : ∃ q, wr.alloc (.cells #[.int .i64 1, .string y, .int .i64 0, .slice none 0 0, .string ⟨#[]⟩, .slice none 0 0, .string ⟨#[]⟩] 103) = q := ⟨_, rfl⟩
          have HB7 : Hid (Below wr.heap.size wr w7) := hJ (by rw [← hfold7]; exact (Below.refl _ _).alloc (Nat.le_refl _) _)
          have HP7 : Hid (Bx w7 wr.heap.size 103 [.int .i64 1, .string y, .int .i64 0, .slice none 0 0, .string ⟨#[]⟩, .slice none 0 0, .string ⟨#[]⟩]) := hJ (by rw [← hfold7]; exact Bx.fresh _ _ _)
          have HW7 : Hid (Calls _ _ _ _ _) := hJ (types_with (T := fun q => q = wr.heap.size) (HO.out.below HB7.out) (by have := HB7.out.size; omega) [bare 1 y] (some ⟨wr.heap.size, 0, none⟩) 1 1 (Sl.single (R := RBnd) HP7.out ⟨_, _, rfl, ⟨none, 0, rfl, Sl.empty _ _ _⟩, ⟨none, 0, rfl, Sl.empty _ _ _⟩⟩ rfl) (fun q hq => ⟨by rw [hq]; exact HP7.out.lt, fun e => by have h1 := (HO.out.block e).2; omega⟩) (fun x hx => by rw [List.mem_singleton.1 hx]; rfl) (by omega))
          have hz7 := HB7.out.size
          go_wp2_with fail
          refine HW7.out.mono ?_
          rintro e w8 ⟨⟨v8, rfl, hown8, hk8⟩, hb8⟩
          have HK8 := hJ ((Kl.below HB7.out).trans hk8 hz7)
          have hz8 : wr.heap.size ≤ w8.heap.size := by have := hb8.size; omega
          go_wp2_with fail
          go_roundw
          case rel => exact ⟨i3 + 1, _, by omega, by go_num, rfl, hJ (by rw [HStep.out]; exact hown8), hJ (HS.out.kl HT.out HK8.out), hJ (HT.out.kl HK8.out hz8), (hB4.trans (HB7.out.mono hsz4)).trans hb8⟩
          case measure => simp [intOf]; omega
        · have HEnd : Hid (addAll l0 ((kAN x).take i3) = addAll l0 (kAN x)) := hJ (by
           rw [List.take_of_length_le]; rw [HVL.out]; omega)
          go_wp2_with fail
          go_roundw
          case rel => exact ⟨j + 1, _, by omega, by go_num, rfl, hJ (by rw [HNext.out, kB6, HL00.out, ← HEnd.out]; exact HO.out), hB4⟩
          case measure => simp [intOf]; omega
     · have HAll : Hid (s.wh.take j = s.wh) := hJ (List.take_of_length_le (by rw [HM.out]; omega))
       go_wp2_with fail
       go_ret
       exact ⟨⟨_, rfl, by rw [HF.out]; have := HO.out.lower HW2.out.size; rwa [HAll.out] at this⟩, HW2.out.trans (hB2.mono HW2.out.size)⟩
def kEM (l : List Bnd) (k : Nat) : List Bnd := (List.range k).map (kE0 l) ++ l.drop k
theorem renUp_zero (l : List Bnd) : kEM l 0 = l := rfl
theorem renUp_all (l : List Bnd) : kEM l l.length = ren l := by
 unfold kEM ren
 rw [List.drop_length, List.append_nil]
theorem kC7 {l : List Bnd} {k : Nat} (h : k ≤ l.length) : (kEM l k).length = l.length := by
 unfold kEM
 rw [List.length_append, List.length_map, List.length_range, List.length_drop]; omega
theorem renUp_at {l : List Bnd} {k : Nat} (h : k < l.length) : (kEM l k)[k]? = some (l.getD k default) := by
 unfold kEM
 rw [List.getElem?_append_right (by rw [List.length_map, List.length_range]; exact Nat.le_refl _), List.length_map, List.length_range, Nat.sub_self, List.getElem?_drop, Nat.add_zero]
 exact kCY h
theorem renUp_next {l : List Bnd} {k : Nat} (h : k < l.length) : kEM l (k + 1) = (kEM l k).set k (kE0 l k) := by
 unfold kEM
 rw [List.range_succ, List.map_append, List.append_assoc, List.set_append_right _ _ (by rw [List.length_map, List.length_range]; exact Nat.le_refl _), List.length_map, List.length_range, Nat.sub_self]
 congr 1
 rw [List.drop_eq_getElem_cons h, List.set_cons_zero]; rfl
theorem ren_take {l : List Bnd} {k : Nat} (h : k < l.length) : (ren l).take (k + 1) = (ren l).take k ++ [kE0 l k] := by
 have := kAU (l := ren l) (k := k) (by rw [kFB]; exact h)
 rw [this, ren_at h]
theorem cnt_next {l : List Bnd} {k : Nat} (h : k < l.length) (q : Int) : cntK q (l.take (k + 1)) = cntK q (l.take k) + if (l.getD k default).kind = q then 1 else 0 := by
 unfold cntK
 rw [kAU h, List.countP_append]
 congr 1
 generalize l.getD k default = x at *
 by_cases e : x.kind = q
 · rw [if_pos e]; simp [e]
 · rw [if_neg e]; simp [e]
def cntV (l : List Bnd) (k : Nat) : List Value := [.int .i64 0, .int .i64 (cntK 1 (l.take k)), .int .i64 (cntK 2 (l.take k)), .int .i64 (cntK 3 (l.take k))]
theorem cnt_bd {l : List Bnd} (hl : l.length ≤ 3000) (q : Int) (k : Nat) : cntK q (l.take k) ≤ 3000 := by
 have := cnt_le q (l.take k)
 rw [List.length_take] at this
 omega
structure RenAt1 (l : List Bnd) (k : Nat) (x : Bnd) : Prop where
 at1 : x.kind = 1 → kE0 l k = ⟨1, x.v, varL (nm 110 (cntK 1 (l.take k) + 1)), ⟨⟨#[]⟩, []⟩, ⟨#[]⟩⟩ ∧ cntV l (k + 1) = (cntV l k).set 1 (.int .i64 ((cntK 1 (l.take k) : Int) + 1))
 at2 : x.kind = 2 → kE0 l k = ⟨2, x.v, ⟨0, []⟩, ⟨nm 114 (cntK 2 (l.take k) + 1), []⟩, ⟨#[]⟩⟩ ∧ cntV l (k + 1) = (cntV l k).set 2 (.int .i64 ((cntK 2 (l.take k) : Int) + 1))
 at3 : x.kind = 3 → kE0 l k = ⟨3, x.v, ⟨0, []⟩, ⟨⟨#[]⟩, []⟩, nm 65 (cntK 3 (l.take k) + 1)⟩ ∧ cntV l (k + 1) = (cntV l k).set 3 (.int .i64 ((cntK 3 (l.take k) : Int) + 1))
theorem renAt1 {l : List Bnd} {k : Nat} (h : k < l.length) (hb : (l.getD k default) = bare (l.getD k default).kind (l.getD k default).v) : RenAt1 l k (l.getD k default) := by
 have hc := fun q => cnt_next h q
 have hr : kE0 l k = renB (cntK (l.getD k default).kind (l.take (k + 1))) (l.getD k default) := rfl
 generalize l.getD k default = x at *
 refine ⟨fun e => ?_, fun e => ?_, fun e => ?_⟩
 · rw [e] at hr hb
   have c1 := hc 1; have c2 := hc 2; have c3 := hc 3; rw [e, if_pos rfl] at c1
   rw [e, if_neg (by decide)] at c2 c3
   refine ⟨?_, ?_⟩
   · rw [hr, c1, hb]; rfl
   · unfold cntV; rw [c1, c2, c3]; rfl
 · rw [e] at hr hb
   have c1 := hc 1; have c2 := hc 2; have c3 := hc 3; rw [e, if_pos rfl] at c2
   rw [e, if_neg (by decide)] at c1 c3
   refine ⟨?_, ?_⟩
   · rw [hr, c2, hb]; rfl
   · unfold cntV; rw [c1, c2, c3]; rfl
 · rw [e] at hr hb
   have c1 := hc 1; have c2 := hc 2; have c3 := hc 3; rw [e, if_pos rfl] at c3
   rw [e, if_neg (by decide)] at c1 c2
   refine ⟨?_, ?_⟩
   · rw [hr, c3, hb]; rfl
   · unfold cntV; rw [c1, c2, c3]; rfl
def digs (n : Nat) : List UInt8 := if n = 0 then [] else Lib.decDigits n
theorem digs_pos {n : Nat} (h : 0 < n) : digs n = digs (n / 10) ++ [UInt8.ofNat (48 + n % 10)] := by
 unfold digs
 rw [if_neg (by omega), Lib.decDigits]
 by_cases h9 : n < 10
 · rw [dif_pos h9, if_pos (by omega), Nat.mod_eq_of_lt h9]; rfl
 · rw [dif_neg h9, if_neg (by omega)]
theorem conv_one (w : World) (g : Nat) (c : Int) (h0 : 0 ≤ c) (h1 : c ≤ 255) (h : w.cell? ⟨g, 0, none⟩ = some (.int .u8 c)) : (convert 153 9 (.slice (some ⟨g, 0, none⟩) 1 1)).run Tryz.prog w = .ok (.string ⟨#[UInt8.ofNat c.toNat]⟩) w := by
 rw [run_convert_bytes_string w 153 9 5 (some ⟨g, 0, none⟩) 1 1 underlying153 underlying5 underlying9]; rw [run_bytesToString w ⟨g, 0, none⟩ 1 1 [c]]
 · rfl
 · refine run_loadCells_list _ _ [.int .u8 c] ?_
   intro j v hj
   cases j with
   | zero => simp at hj; subst hj; exact h
   | succ j => simp at hj
def decS (n : Nat) : Str := ⟨(Lib.decDigits n).toArray⟩
theorem kEO (n : Nat) (h1 : 1 ≤ n) (hn : n ≤ 100000) (w : World) :
 Calls Tryz.prog 72 #[.int .i64 n] w fun e w' => e = .returned (.string (decS n)) ∧ Below w.heap.size w w' := by
 go_enter func72, ntmps72
 go_wp2_with fail
 go_loopw [0, 3] (fun i sv wr => ∃ (m : Nat) (s : Str), m ≤ n ∧ i = .int .i64 m ∧ sv = .string s ∧ Hid (digs n = digs m ++ s.data.toList) ∧ Below w.heap.size w wr) (fun i _ _ => (intOf i).toNat)
 case atStart => exact ⟨n, _, Nat.le_refl _, rfl, rfl, hJ (by simp), Below.refl _ _⟩
 case round =>
  obtain ⟨m, s, hm, rfl, rfl, HD, hB⟩ := hrel
  by_cases hlt : 0 < m
  · have HP := hJ (digs_pos hlt)
    have hs : s.size ≤ 6 := by
     have h1 : (digs n).length ≤ 6 := by unfold digs; rw [if_neg (by omega)]; exact kEV 5 n (by omega)
     rw [HD.out, List.length_append] at h1
     have h2 : s.data.toList.length = s.size := rfl
     omega
    have hml : (0 : Int) < (m : Int) := by omega
    have hm0 : (0 : Int) ≤ (m : Int) := by omega
    have hd : (0 : Int) ≤ (m : Int) % 10 := by omega
    have hd2 : (m : Int) % 10 < 10 := by omega
    have hcv := conv_one (wr.alloc (.cells #[.int .u8 (48 + (m : Int) % 10)] 5)) wr.heap.size (48 + (m : Int) % 10) (by omega) (by omega) (by simp [go_sem])
    go_wp2_with fail
    go_roundw
    case rel => exact ⟨m / 10, _, by omega, by go_num, rfl, hJ (by rw [HD.out, HP.out, UInt8.ofNat_add]; simp), hB.alloc hB.size _⟩
    case measure => simp [intOf]; omega
  · obtain rfl : m = 0 := by omega
    go_wp2_with fail
    go_ret
    have h : digs n = s.data.toList := by have := HD.out; rwa [show digs 0 = [] from rfl, List.nil_append] at this
    unfold digs at h
    rw [if_neg (by omega)] at h
    refine ⟨?_, hB⟩
    unfold decS
    rw [h]
    rfl
theorem ref12_Vars {S : Blk} {s : Sch} {cs : List Value} {w : World} (h : RSch.rd S w cs s) (hv : kAJ s = true) :
 Calls Tryz.prog 71 #[.agg cs.toArray] w fun e w' => (∃ v, e = .returned v ∧ Own RBnd 103 (fun _ => False) w' w.heap.size v (kA1 s)) ∧ Below w.heap.size w w' := by
 have hsp := kAT hv
 have hpl12 : s.params.length ≤ 1000000 := by have := hsp.1; omega
 have HV : Hid (∀ W, Below w.heap.size w W → Calls Tryz.prog 29 #[.agg cs.toArray] W fun e w' => e = .returned (.bool true) ∧ Below W.heap.size W w') :=
  hJ (fun W hW => hv ▸ kB0 (RSch.below h hW) (sch_sz hv) hpl12)
 have HCA : Hid (∀ W, Below w.heap.size w W → Calls Tryz.prog 33 #[.agg cs.toArray] W fun e w' => (∃ v, e = .returned v ∧ Own RTyp 39 (fun k => S k ∧ k < w.heap.size) w' W.heap.size v (allT s)) ∧ Below W.heap.size W w') :=
  hJ (fun W hW => kD8 (RSch.below (RSch.mono h (fun k hk hlt => ⟨hk, hlt⟩)) hW) hpl12)
 have HAV := hJ (kEI hv); have HWV := hJ hsp.2.2.2.2; have hpl := hsp.1; have hwl := hsp.2.1
 have HF : Hid (kA1 s = addAll (kBE (allT s)) (s.wh.flatMap kAN)) := hJ (by unfold kA1; rw [hv]; rfl)
 obtain ⟨p, t, q, rfl, ⟨ap, cp, rfl, hp⟩, ⟨at_, ct, rfl, ht⟩, ⟨aq, cq, rfl, hq⟩⟩ := h; have HQ := hJ hq
 have hAl : (allT s).length = s.params.length + 1 := by unfold allT; rw [List.length_append]; rfl
 clear hp ht hq hsp hv
 generalize hn : s.params.length = n at *
 generalize hm : s.wh.length = m at *
 have HN := hJ hn; have HM := hJ hm; have HAl := hJ hAl; clear hn hm hAl; obtain ⟨B0, ya, hW0⟩ := box1 w 41 [.slice ap n cp, .string s.result.elem, .string s.result.shape.row, .slice at_ s.result.shape.dims.length ct, .slice aq m cq]; have xa0 := box0 ya 0 _ rfl; have xa1 := box0 ya 1 _ rfl; have xa2 := box0 ya 2 _ rfl; have xa3 := box0 ya 3 _ rfl; have xa4 := box0 ya 4 _ rfl
 have bka : Bx _ _ _ _ := ya
 clear ya; have HBk := hJ bka; clear bka
 go_enter func71, ntmps71
 go_wp2_with fail
 refine (HV.out _ B0.out).mono ?_
 rintro e w1 ⟨rfl, hb⟩
 have HB1 := hJ (HBk.out.below hb (by simp))
 have y0 := HB1.out.cell 0 _ rfl; have y1 := HB1.out.cell 1 _ rfl; have y2 := HB1.out.cell 2 _ rfl; have y3 := HB1.out.cell 3 _ rfl; have y4 := HB1.out.cell 4 _ rfl; have hl1 := HB1.out.lt; have HW := hJ (B0.out.trans (hb.mono B0.out.size)); clear xa0 xa1 xa2 xa3 xa4 hb
 go_wp2_with fail
 refine (HCA.out w1 HW.out).mono ?_
 rintro e w2 ⟨⟨v, rfl, hown⟩, hb2⟩
 obtain ⟨al, cl, rfl, hsl⟩ := hown.sl
 rw [HAl.out] at hsl ⊢
 have HLs := hJ hsl; have hz2 := hb2.size; have HG2 := hJ (HB1.out.below hb2 hl1); have HW2 := hJ (HW.out.trans (hb2.mono HW.out.size)); have HQ2 := hJ (HQ.out.below HW2.out); clear hown hsl hb2 y0 y1 y2 y3 y4
 go_wp2_with fail
 go_loopw [3, 5] (fun v i wr => ∃ (k : Nat) (v0 : Value), k ≤ n + 1 ∧ i = .int .i64 k ∧ v0 = v ∧ Hid (Own RBnd 103 (fun _ => False) wr w2.heap.size v (kBE ((allT s).take k))) ∧ Below w2.heap.size w2 wr) (fun _ i _ => n + 1 - (intOf i).toNat)
 case atStart => exact ⟨0, _, Nat.zero_le _, rfl, rfl, hJ (Own.nil _ _ _ _ _), Below.refl _ _⟩
 case round =>
  obtain ⟨k, v0, hk, rfl, rfl, HO, hB⟩ := hrel; have hsz := hB.size; obtain ⟨a0, m0, c0, rfl⟩ := HO.out.shape
  by_cases hlt : k < n + 1
  · obtain ⟨b, off, rfl, hbW, _⟩ := HLs.out.form k hlt
    have hkl : k < (allT s).length := by rw [HAl.out]; exact hlt
    obtain ⟨t, hr, ⟨ax, cx, rfl, hts⟩, e0, e1, e2⟩ := (HLs.out.below hB).typ k hlt; have HXv := hJ (HAV.out _ (kAI hkl)); have HNext := hJ (varsAll_next hkl)
    have HLen : Hid ((kBE ((allT s).take k)).length ≤ 2000) := hJ (by
     have q1 := kDI ((allT s).take k); rw [List.length_take] at q1
     omega)
    clear hkl
    generalize (allT s).getD k default = x at *
    have HCx := hJ (ref12_TypeVars hr (typ_sz HXv.out)); have HVl := hJ (varsTy_len x); clear hr hts
    go_wp2_with fail
    refine HCx.out.mono ?_
    rintro e w3 ⟨⟨v3, rfl, hown3⟩, hb3⟩
    obtain ⟨a3, c3, rfl, hs3, hA3⟩ := hown3.self; have hz3 := hb3.size
    have HT3 : Hid (Apart (At a3) w3 (.slice a0 m0 c0)) := hJ (fun q hq => ⟨(hA3 q hq).2, fun e => by have h1 := (HO.out.block e).2; have h2 := (hA3 q hq).1; omega⟩)
    have HS3 := hJ hs3; have HO3 := hJ (HO.out.below hb3); have HB3 := hJ (hB.trans (hb3.mono hsz)); clear hown3 hs3 hA3 hb3 HCx HO e0 e1 e2
    generalize kBQ x = vs at *
    generalize kBE ((allT s).take k) = l0 at *
    generalize hvl : vs.length = m3 at *
    have HVL := hJ hvl; clear hvl
    have hm3 : m3 ≤ 101 := HVl.out
    go_wp2_with fail
    go_loopw [3, 7] (fun v i wr => ∃ (j : Nat) (v0 : Value), j ≤ m3 ∧ i = .int .i64 j ∧ v0 = v ∧ Hid (Own RBnd 103 (fun _ => False) wr w2.heap.size v (addBs l0 (vs.take j))) ∧ Hid (Sl RBnd (At a3) wr a3 m3 c3 vs) ∧ Hid (Apart (At a3) wr v) ∧ Below w2.heap.size w2 wr) (fun _ i _ => m3 - (intOf i).toNat)
    case atStart => exact ⟨0, _, Nat.zero_le _, rfl, rfl, HO3, HS3, HT3, HB3.out⟩
    case round =>
     obtain ⟨j, v0, hj, rfl, rfl, HO, HS, HT, hB4⟩ := hrel; have hsz4 := hB4.size; obtain ⟨a0, m0, c0, rfl⟩ := HO.out.shape
     by_cases hlj : j < m3
     · obtain ⟨b4, off4, rfl, hbW4, _⟩ := HS.out.form j hlj
       obtain ⟨t, d, hr, hd, f0, f1, f2, f3, f4, f5, f6⟩ := HS.out.bnd j hlj
       have hk3 : j < vs.length := by rw [HVL.out]; exact hlj
       have HStep := hJ (addBs_next (l0 := l0) hk3)
       have hLen2 : (addBs l0 (vs.take j)).length ≤ 1000000 := by
        have q1 := addBs_len (vs.take j) l0; have q2 := HLen.out; rw [List.length_take] at q1
        omega
       have HAdd : Hid (Calls _ _ _ wr.drew _) := hJ (kGP HO.out.drew (by exact hsz4) hLen2 (vs.getD j default).kind (vs.getD j default).v)
       clear hk3 hr hd f2 f3 f4 f5 f6
       generalize vs.getD j default = y at *
       go_wp2_with fail
       go_still_tail 11, (by kernel_rfl)
       change wpList _ _ _ _ _ wr.drew
       go_wp2_with fail
       refine HAdd.out.mono ?_
       rintro e w8 ⟨⟨v8, rfl, hown8, hk8⟩, hb8⟩
       have hk8 : Kl (.slice a0 m0 c0) v8 wr w8 := ⟨hk8.block, hk8.own⟩
       have hb8 : Below w2.heap.size wr w8 := ((Below.refl _ _).drew).trans hb8
       have hz8 := hb8.size
       go_wp2_with fail
       go_roundw
       case rel => exact ⟨j + 1, _, by omega, by go_num, rfl, hJ (by rw [HStep.out]; exact hown8), hJ (HS.out.kl HT.out hk8), hJ (HT.out.kl hk8 hz8), hB4.trans hb8⟩
       case measure => simp [intOf]; omega
     · have HEnd : Hid (addBs l0 (vs.take j) = addBs l0 vs) := hJ (by
        rw [List.take_of_length_le]; rw [HVL.out]; omega)
       go_wp2_with fail
       go_roundw
       case rel => exact ⟨k + 1, _, by omega, by go_num, rfl, hJ (by rw [HNext.out, ← HEnd.out]; exact HO.out), hB4⟩
       case measure => simp [intOf]; omega
  · have HAll : Hid (kBE ((allT s).take k) = kBE (allT s)) := hJ (by rw [List.take_of_length_le (by rw [HAl.out]; omega)])
    have HO0 := hJ (HAll.out ▸ HO.out)
    have HL0 : Hid ((kBE (allT s)).length ≤ 2000) := hJ (by
     have q1 := kDI (allT s); rw [HAl.out] at q1
     omega)
    clear HO HAll
    go_wp2_with fail
    go_loopw [3, 8] (fun v i wr => ∃ (j : Nat) (v0 : Value), j ≤ m ∧ i = .int .i64 j ∧ v0 = v ∧ Hid (Own RBnd 103 (fun _ => False) wr w2.heap.size v (addAll (kBE (allT s)) ((s.wh.take j).flatMap kAN))) ∧ Below w2.heap.size w2 wr) (fun _ i _ => m - (intOf i).toNat)
    case atStart => exact ⟨0, _, Nat.zero_le _, rfl, rfl, HO0, hB⟩
    case round =>
     obtain ⟨j, v0, hj, rfl, rfl, HO, hB2⟩ := hrel; have hsz2 := hB2.size; obtain ⟨a0, m0, c0, rfl⟩ := HO.out.shape
     have HG4 := hJ (HG2.out.below hB2 (by have := HG2.out.lt; omega))
     have g4 := HG4.out.cell 4 _ rfl
     by_cases hlj : j < m
     · obtain ⟨b2, off2, rfl, hbW2, _⟩ := HQ2.out.form j hlj
       have hjl : j < s.wh.length := by rw [HM.out]; exact hlj
       obtain ⟨t, hr, ⟨ax, cx, rfl, hts⟩, e0, e1⟩ := HQ2.out.lin j hlj; have hxv := HWV.out _ (kAI hjl); have HX := hJ (kBV hxv)
       have HNext : Hid ((s.wh.take (j + 1)).flatMap kAN = (s.wh.take j).flatMap kAN ++ kAN (s.wh.getD j default)) := hJ (by rw [kAU hjl, List.flatMap_append]; simp)
       have HLen : Hid ((addAll (kBE (allT s)) ((s.wh.take j).flatMap kAN)).length ≤ 3000) := hJ (by
        have q1 := kBO ((s.wh.take j).flatMap kAN) (kBE (allT s)); have q2 := HL0.out
        have q3 := kDU (s.wh.take j) (fun x hx => HWV.out x (List.mem_of_mem_take hx))
        rw [List.length_take] at q3
        omega)
       have HT2 := hJ hts; have hmt := hts.small; have E1 := hJ (kAC e1); clear hjl hxv hr hts e0 e1
       generalize s.wh.getD j default = x at *
       generalize hl0 : addAll (kBE (allT s)) ((s.wh.take j).flatMap kAN) = l0 at *
       have HL00 := hJ hl0; clear hl0
       have hvl : (kAN x).length = x.terms.length := by unfold kAN; rw [List.length_map]
       have HVL := hJ hvl; clear hvl
       generalize hxl : x.terms.length = n3 at *
       have HXL := hJ hxl; clear hxl
       have hn3 : n3 ≤ 12 := by have := HX.out; omega
       have e1 := E1.out _ hB2
       go_wp2_with fail
       go_loopw [3, 9] (fun v i wr => ∃ (i3 : Nat) (v0 : Value), i3 ≤ n3 ∧ i = .int .i64 i3 ∧ v0 = v ∧ Hid (Own RBnd 103 (fun _ => False) wr w2.heap.size v (addAll l0 ((kAN x).take i3))) ∧ Below w2.heap.size w2 wr) (fun _ i _ => n3 - (intOf i).toNat)
       case atStart => exact ⟨0, _, Nat.zero_le _, rfl, rfl, HO, hB2⟩
       case round =>
        obtain ⟨i3, v0, hi3, rfl, rfl, HO, hB4⟩ := hrel; have hsz4 := hB4.size; obtain ⟨a0, m0, c0, rfl⟩ := HO.out.shape
        have HG5 := hJ (HG2.out.below hB4 (by have := HG2.out.lt; omega))
        have g5 := HG5.out.cell 4 _ rfl; have d1 := E1.out _ hB4
        by_cases hl3 : i3 < n3
        · obtain ⟨b4, off4, rfl, hbW4, _⟩ := HT2.out.form i3 hl3
          obtain ⟨f0, f1⟩ := (HT2.out.below hB4).coef i3 hl3
          have hk3 : i3 < x.terms.length := by rw [HXL.out]; exact hl3
          have HStep : Hid (addAll l0 ((kAN x).take (i3 + 1)) = addV (addAll l0 ((kAN x).take i3)) 1 (x.terms.getD i3 default).v) := hJ (by
           unfold kAN
           rw [← List.map_take, ← List.map_take, kAU hk3, List.map_append, kB6]; rfl)
          have hLen2 : (addAll l0 ((kAN x).take i3)).length ≤ 1000000 := by
           have q1 := kBO ((kAN x).take i3) l0; have q2 := HLen.out; rw [List.length_take] at q1
           omega
          clear hk3
          have HAdd : Hid (Calls _ _ _ _ _) := hJ (kGP HO.out hsz4 hLen2 1 (x.terms.getD i3 default).v)
          generalize x.terms.getD i3 default = y at *
          generalize addAll l0 ((kAN x).take i3) = l1 at *
          go_wp2_with fail
          refine HAdd.out.mono ?_
          rintro e w8 ⟨⟨v8, rfl, hown8, hk8⟩, hb8⟩
          go_wp2_with fail
          go_roundw
          case rel => exact ⟨i3 + 1, _, by omega, by go_num, rfl, hJ (by rw [HStep.out]; exact hown8), hB4.trans hb8⟩
          case measure => simp [intOf]; omega
        · have HEnd : Hid (addAll l0 ((kAN x).take i3) = addAll l0 (kAN x)) := hJ (by
           rw [List.take_of_length_le]; rw [HVL.out]; omega)
          go_wp2_with fail
          go_roundw
          case rel => exact ⟨j + 1, _, by omega, by go_num, rfl, hJ (by rw [HNext.out, kB6, HL00.out, ← HEnd.out]; exact HO.out), hB4⟩
          case measure => simp [intOf]; omega
     · have HAll : Hid (s.wh.take j = s.wh) := hJ (List.take_of_length_le (by rw [HM.out]; omega))
       go_wp2_with fail
       go_ret
       exact ⟨⟨_, rfl, by rw [HF.out]; have := HO.out.lower HW2.out.size; rwa [HAll.out] at this⟩, HW2.out.trans (hB2.mono HW2.out.size)⟩
theorem Own.cut {α : Type} {R : Rep α} {E : TypeId} {S : Blk} {w : World} {base : Nat} {v : Value} {l : List α} (h : Own R E S w base v l) : Own R E (fun q => S q ∧ q < w.heap.size) w base v l := h.mono fun k hk hlt => ⟨hk, hlt⟩
theorem Sl.zero {α : Type} {R : Rep α} {S : Blk} {w : World} {a : Option Addr} {c : Nat} (hm : c ≤ maxLen) (hn : a = none → c = 0) : Sl R S w a 0 c [] := ⟨rfl, Nat.zero_le _, hm, hn, fun i x h => by simp at h⟩
theorem cntV_zero (l : List Bnd) : cntV l 0 = [.int .i64 0, .int .i64 0, .int .i64 0, .int .i64 0] := by
 unfold cntV cntK; rfl
theorem ref12_Renaming {S : Blk} {s : Sch} {cs : List Value} {w : World} (h : RSch.rd S w cs s) (hv : kAJ s = true) :
 Calls Tryz.prog 31 #[.agg cs.toArray] w fun e w' => (∃ v, e = .returned v ∧ Own RBnd 103 (fun q => w.heap.size ≤ q) w' w.heap.size v (ren (kA1 s))) ∧ Below w.heap.size w w' := by
 have HCV : Hid (∀ W, Below w.heap.size w W → Calls Tryz.prog 71 #[.agg cs.toArray] W fun e w' => (∃ v, e = .returned v ∧ Own RBnd 103 (fun _ => False) w' W.heap.size v (kA1 s)) ∧ Below W.heap.size W w') :=
  hJ (fun W hW => ref12_Vars (RSch.below h hW) hv)
 have HInv := hJ (kCX hv); have HLen := hJ (kEJ (s := s)); obtain ⟨p, t, q, rfl, ⟨ap, cp, rfl, hp⟩, ⟨at_, ct, rfl, ht⟩, ⟨aq, cq, rfl, hq⟩⟩ := h; clear hp ht hq hv
 generalize kA1 s = L at *
 obtain ⟨B0, ya, hW0⟩ := box1 w 41 [.slice ap s.params.length cp, .string s.result.elem, .string s.result.shape.row, .slice at_ s.result.shape.dims.length ct, .slice aq s.wh.length cq]; have xa0 := box0 ya 0 _ rfl; have xa1 := box0 ya 1 _ rfl; have xa2 := box0 ya 2 _ rfl; have xa3 := box0 ya 3 _ rfl; have xa4 := box0 ya 4 _ rfl
 have bka : Bx _ _ _ _ := ya
 clear ya
 have HB1 : Hid (Below w.heap.size w ((w.alloc (.cells #[.slice ap s.params.length cp, .string s.result.elem, .string s.result.shape.row, .slice at_ s.result.shape.dims.length ct, .slice aq s.wh.length cq] 41)).alloc (.cells #[.int .i64 0, .int .i64 0, .int .i64 0, .int .i64 0] 100))) := hJ (B0.out.alloc (by simp) _)
 have HG1 : Hid (Bx ((w.alloc (.cells #[.slice ap s.params.length cp, .string s.result.elem, .string s.result.shape.row, .slice at_ s.result.shape.dims.length ct, .slice aq s.wh.length cq] 41)).alloc (.cells #[.int .i64 0, .int .i64 0, .int .i64 0, .int .i64 0] 100)) (w.heap.size + 1) 100 [.int .i64 0, .int .i64 0, .int .i64 0, .int .i64 0]) := hJ (by
  have := Bx.fresh (w.alloc (.cells #[.slice ap s.params.length cp, .string s.result.elem, .string s.result.shape.row, .slice at_ s.result.shape.dims.length ct, .slice aq s.wh.length cq] 41)) 100 [.int .i64 0, .int .i64 0, .int .i64 0, .int .i64 0]
  simpa using this)
 clear bka
 go_enter func31, ntmps31
 go_wp2_with fail
 refine (HCV.out _ HB1.out).mono ?_
 rintro e w2 ⟨⟨v, rfl, hown⟩, hb2⟩
 obtain ⟨a5, c5, rfl, hs5, hA5⟩ := hown.self; have HS5 := hJ hs5
 have HA5 : Hid (∀ q, At a5 q → w.heap.size + 2 ≤ q ∧ q < w2.heap.size) := hJ (fun q hq => by have := hA5 q hq; simpa using this)
 have HG2 : Hid (Bx w2 (w.heap.size + 1) 100 (cntV L 0)) := hJ (by rw [cntV_zero]; exact HG1.out.below hb2 (by simp))
 have HW2 := hJ (HB1.out.trans (hb2.mono HB1.out.size))
 have hz2 : w.heap.size + 2 ≤ w2.heap.size := by have := hb2.size; simpa using this
 clear hown hs5 hA5 hb2 xa0 xa1 xa2 xa3 xa4 HB1 HG1 B0 HCV hW0
 generalize hn : L.length = n at *
 have HN := hJ hn; clear hn
 have hn3 : n ≤ 3000 := by have := HLen.out; omega
 go_wp2_with fail
 go_loopw [3, 6] (fun v i wr => ∃ (k : Nat) (v0 : Value), k ≤ n ∧ i = .int .i64 k ∧ v0 = v ∧ Hid (Own RBnd 103 (fun q => w2.heap.size ≤ q) wr w2.heap.size v ((ren L).take k)) ∧ Hid (Bx wr (w.heap.size + 1) 100 (cntV L k)) ∧ Hid (∀ q, q < w2.heap.size → q ≠ w.heap.size + 1 → wr.heap[q]? = w2.heap[q]?) ∧ Below w.heap.size w wr ∧ w2.heap.size ≤ wr.heap.size) (fun _ i _ => n - (intOf i).toNat)
 case atStart => exact ⟨0, _, Nat.zero_le _, rfl, rfl, hJ (Own.nil _ _ _ _ _), HG2, hJ (fun _ _ _ => rfl), HW2.out, Nat.le_refl _⟩
 case round =>
  obtain ⟨k, v0, hk, rfl, rfl, HO, HG, HK, hB, hsz⟩ := hrel; obtain ⟨a0, m0, c0, rfl⟩ := HO.out.shape
  by_cases hlt : k < n
  · have HSr := hJ (HS5.out.frame (w' := wr) (fun q hq hlt => HK.out q hlt (by have := (HA5.out q hq).1; omega)))
    obtain ⟨b, off, rfl, hbW, _⟩ := HSr.out.form k hlt; obtain ⟨t, d, hr, ⟨⟨ta, tc, rfl, hta⟩, ⟨da, dc, rfl, hda⟩⟩, e0, e1, e2, e3, e4, e5, e6⟩ := HSr.out.bnd k hlt
    have hkl : k < L.length := by rw [HN.out]; exact hlt
    have HGood := hJ (HInv.out.good _ (kAI hkl)); have HRen := hJ (renAt1 hkl HGood.out.1); have HNext := hJ (ren_take hkl)
    have HLk : Hid (((ren L).take k).length ≤ 3000) := hJ (by rw [List.length_take, kFB, HN.out]; omega)
    have hL3 : L.length ≤ 3000 := by rw [HN.out]; exact hn3
    have hc1 := cnt_bd hL3 1 k; have hc2 := cnt_bd hL3 2 k; have hc3 := cnt_bd hL3 3 k; clear hL3
    have HCV0 : Hid (cntV L k = [.int .i64 0, .int .i64 (cntK 1 (L.take k)), .int .i64 (cntK 2 (L.take k)), .int .i64 (cntK 3 (L.take k))]) := hJ rfl
    obtain ⟨kd, nv, hx⟩ : ∃ kd nv, L.getD k default = ⟨kd, nv, ⟨0, []⟩, ⟨⟨#[]⟩, []⟩, ⟨#[]⟩⟩ := ⟨_, _, HGood.out.1⟩; rw [hx] at HRen HGood
    simp only [hx, List.length_nil] at e0 e1 e2 e3 e4 e5 e6
    have hok := HGood.out.2
    have HTa : Hid (tc ≤ maxLen ∧ (ta = none → tc = 0)) := hJ ⟨hta.max, hta.nil⟩
    have HDa : Hid (dc ≤ maxLen ∧ (da = none → dc = 0)) := hJ ⟨hda.max, hda.nil⟩
    clear hx hkl hr HGood hta hda; obtain ⟨n1, hn1⟩ : ∃ q, cntK 1 (L.take k) = q := ⟨_, rfl⟩; obtain ⟨n2, hn2⟩ : ∃ q, cntK 2 (L.take k) = q := ⟨_, rfl⟩; obtain ⟨n3, hn3'⟩ : ∃ q, cntK 3 (L.take k) = q := ⟨_, rfl⟩
    have HCe : Hid (cntK 1 (L.take k) = n1 ∧ cntK 2 (L.take k) = n2 ∧ cntK 3 (L.take k) = n3) := hJ ⟨hn1, hn2, hn3'⟩
    rw [hn1] at hc1; rw [hn2] at hc2; rw [hn3'] at hc3; rw [hn1, hn2, hn3'] at HCV0; clear hn1 hn2 hn3'; have HGq := hJ (HCV0.out ▸ HG.out); obtain ⟨y, hy⟩ : ∃ y, kE0 L k = y := ⟨_, rfl⟩; have HYe := hJ hy; rw [hy] at HNext; clear hy
    generalize (ren L).take k = lk at *
    rcases hok with ⟨hok, hnm⟩ | ⟨hok, hnm⟩ | ⟨hok, hnm⟩
    · skip
      have hkd : kd = 1 := hok
      subst hkd; have HR1 := hJ (HRen.out.at1 rfl); rw [HCe.out.1] at HR1; clear HRen; have HP := hJ (Bx.fresh wr 103 [.int .i64 1, .string nv, .int .i64 0, .slice ta 0 tc, .string ⟨#[]⟩, .slice da 0 dc, .string ⟨#[]⟩]); have HGa := hJ (HGq.out.alloc (.cells #[.int .i64 1, .string nv, .int .i64 0, .slice ta 0 tc, .string ⟨#[]⟩, .slice da 0 dc, .string ⟨#[]⟩] 103)); have p0 := HP.out.cell 0 _ rfl; have g1 := HGa.out.cell 1 _ rfl; have v1 := HGa.out.fz 1; have HG1 := hJ (HGa.out.set 1 (.int .i64 ((n1 : Int) + 1))); have h1 := HG1.out.cell 1 _ rfl
      have HP1 : Hid (Bx ((wr.alloc (.cells #[.int .i64 1, .string nv, .int .i64 0, .slice ta 0 tc, .string ⟨#[]⟩, .slice da 0 dc, .string ⟨#[]⟩] 103)).setCell ⟨w.heap.size + 1, 1, none⟩ (.int .i64 ((n1 : Int) + 1))) wr.heap.size 103 [.int .i64 1, .string nv, .int .i64 0, .slice ta 0 tc, .string ⟨#[]⟩, .slice da 0 dc, .string ⟨#[]⟩]) := hJ (HP.out.other (by show w.heap.size + 1 ≠ _; omega))
      have HKb : Hid (∀ q, q < wr.heap.size → q ≠ w.heap.size + 1 → ((wr.alloc (.cells #[.int .i64 1, .string nv, .int .i64 0, .slice ta 0 tc, .string ⟨#[]⟩, .slice da 0 dc, .string ⟨#[]⟩] 103)).setCell ⟨w.heap.size + 1, 1, none⟩ (.int .i64 ((n1 : Int) + 1))).heap[q]? = wr.heap[q]?) := hJ (fun q hq hne => (kAA (fun e => hne e.symm)).trans (Below.heap_alloc _ _ _ hq))
      have HBb : Hid (Below w.heap.size w ((wr.alloc (.cells #[.int .i64 1, .string nv, .int .i64 0, .slice ta 0 tc, .string ⟨#[]⟩, .slice da 0 dc, .string ⟨#[]⟩] 103)).setCell ⟨w.heap.size + 1, 1, none⟩ (.int .i64 ((n1 : Int) + 1)))) := hJ ((hB.alloc hB.size _).setCell (by simp) _)
      have hzb : ((wr.alloc (.cells #[.int .i64 1, .string nv, .int .i64 0, .slice ta 0 tc, .string ⟨#[]⟩, .slice da 0 dc, .string ⟨#[]⟩] 103)).setCell ⟨w.heap.size + 1, 1, none⟩ (.int .i64 ((n1 : Int) + 1))).heap.size = wr.heap.size + 1 := by simp
      have HZb := hJ hzb; clear hzb; have r0 := HP1.out.cell 0 _ rfl
      have HCd := hJ (kEO (n1 + 1) (by omega) (by omega) ((wr.alloc (.cells #[.int .i64 1, .string nv, .int .i64 0, .slice ta 0 tc, .string ⟨#[]⟩, .slice da 0 dc, .string ⟨#[]⟩] 103)).setCell ⟨w.heap.size + 1, 1, none⟩ (.int .i64 ((n1 : Int) + 1))))
      rw [Int.natCast_add, Int.natCast_one] at HCd; clear HGa HP
      go_wp2_with fail
      refine HCd.out.mono ?_
      rintro e w4 ⟨rfl, hb4⟩
      clear HCd
      have hz4 : wr.heap.size + 1 ≤ w4.heap.size := by have := hb4.size; rw [HZb.out] at this; exact this
      have HP4 := hJ (HP1.out.below hb4 (by rw [HZb.out]; omega))
      have HG4 := hJ (HG1.out.below hb4 (by rw [HZb.out]; omega))
      have HK4 : Hid (∀ q, q < wr.heap.size → q ≠ w.heap.size + 1 → w4.heap[q]? = wr.heap[q]?) := hJ (fun q hq hne => (hb4.block q (by rw [HZb.out]; omega)).trans (HKb.out q hq hne))
      have HB4 := hJ (HBb.out.trans (hb4.mono (by rw [HZb.out]; omega)))
      have s0 := HP4.out.cell 0 _ rfl; have s1 := HP4.out.cell 1 _ rfl; have s2 := HP4.out.cell 2 _ rfl; have s3 := HP4.out.cell 3 _ rfl; have s4 := HP4.out.cell 4 _ rfl; have s5 := HP4.out.cell 5 _ rfl; have s6 := HP4.out.cell 6 _ rfl; have v4 := HP4.out.fz; clear HKb HBb HP1 HG1 hb4 r0 h1 g1 v1 p0 HZb e0 e1 e2 e3 e4 e5 e6
      have hds : (decS (n1 + 1)).size ≤ 6 := by
       show (Lib.decDigits (n1 + 1)).length ≤ 6
       exact kEV 5 _ (by omega)
      have HNm : Hid (∀ c : UInt8, (⟨#[c]⟩ : Str) ++ decS (n1 + 1) = nm c (n1 + 1)) := hJ (fun c => rfl)
      generalize decS (n1 + 1) = dd at *
      have HOc := hJ HO.out.cut; have HPc := hJ (HP4.out.alloc (.cells #[.string ((⟨#[110]⟩ : Str) ++ dd), .int .i64 1] 62)); have vc2 := HPc.out.fz 2; have c2 := HPc.out.cell 2 _ rfl; have HPd1 := hJ (HPc.out.set 2 (.int .i64 0)); have vd3 := HPd1.out.fz 3; have d3 := HPd1.out.cell 3 _ rfl; have HPd := hJ (HPd1.out.set 3 (.slice (some ⟨w4.heap.size, 0, none⟩) 1 1)); have q0 := HPd.out.cell 0 _ rfl; have q1 := HPd.out.cell 1 _ rfl; have q2 := HPd.out.cell 2 _ rfl; have q3 := HPd.out.cell 3 _ rfl; have q4 := HPd.out.cell 4 _ rfl; have q5 := HPd.out.cell 5 _ rfl; have q6 := HPd.out.cell 6 _ rfl
      have HC0 := hJ (((Bx.fresh w4 62 [.string ((⟨#[110]⟩ : Str) ++ dd), .int .i64 1]).other (a := ⟨wr.heap.size, 2, none⟩) (u := .int .i64 0) (by show wr.heap.size ≠ _; omega)).other (a := ⟨wr.heap.size, 3, none⟩) (u := .slice (some ⟨w4.heap.size, 0, none⟩) 1 1) (by show wr.heap.size ≠ _; omega))
      have HKd : Hid (∀ q, q < wr.heap.size → q ≠ w.heap.size + 1 → (((w4.alloc (.cells #[.string ((⟨#[110]⟩ : Str) ++ dd), .int .i64 1] 62)).setCell ⟨wr.heap.size, 2, none⟩ (.int .i64 0)).setCell ⟨wr.heap.size, 3, none⟩ (.slice (some ⟨w4.heap.size, 0, none⟩) 1 1)).heap[q]? = wr.heap[q]?) := hJ (fun q hq hne => (kAA (by show wr.heap.size ≠ q; omega)).trans ((kAA (by show wr.heap.size ≠ q; omega)).trans ((Below.heap_alloc _ _ _ (by omega)).trans (HK4.out q hq hne))))
      have HGd := hJ (((HG4.out.alloc (.cells #[.string ((⟨#[110]⟩ : Str) ++ dd), .int .i64 1] 62)).other (a := ⟨wr.heap.size, 2, none⟩) (u := .int .i64 0) (by show wr.heap.size ≠ _; omega)).other (a := ⟨wr.heap.size, 3, none⟩) (u := .slice (some ⟨w4.heap.size, 0, none⟩) 1 1) (by show wr.heap.size ≠ _; omega))
      have HBd : Hid (Below w.heap.size w (((w4.alloc (.cells #[.string ((⟨#[110]⟩ : Str) ++ dd), .int .i64 1] 62)).setCell ⟨wr.heap.size, 2, none⟩ (.int .i64 0)).setCell ⟨wr.heap.size, 3, none⟩ (.slice (some ⟨w4.heap.size, 0, none⟩) 1 1))) := hJ (((HB4.out.alloc HB4.out.size _).setCell (by show w.heap.size ≤ wr.heap.size; omega) _).setCell (by show w.heap.size ≤ wr.heap.size; omega) _)
      have HRY : Hid (RBnd.rd (fun q => w2.heap.size ≤ q ∧ (Value.slice a0 m0 c0).ownBlock ≠ some q) (((w4.alloc (.cells #[.string ((⟨#[110]⟩ : Str) ++ dd), .int .i64 1] 62)).setCell ⟨wr.heap.size, 2, none⟩ (.int .i64 0)).setCell ⟨wr.heap.size, 3, none⟩ (.slice (some ⟨w4.heap.size, 0, none⟩) 1 1)) [.int .i64 1, .string nv, .int .i64 0, .slice (some ⟨w4.heap.size, 0, none⟩) 1 1, .string ⟨#[]⟩, .slice da 0 dc, .string ⟨#[]⟩] y) := hJ (by
       rw [← HYe.out, HR1.out.1]
       exact ⟨_, _, rfl, ⟨_, 1, rfl, Sl.single (cs := [.string ((⟨#[110]⟩ : Str) ++ dd), .int .i64 1]) HC0.out (by rw [HNm.out]; rfl) ⟨by omega, fun e => by have := (HO.out.block e).2; omega⟩⟩, ⟨da, dc, rfl, Sl.zero HDa.out.1 HDa.out.2⟩⟩)
      have HOd : Hid (Own RBnd 103 (fun q => w2.heap.size ≤ q) (((w4.alloc (.cells #[.string ((⟨#[110]⟩ : Str) ++ dd), .int .i64 1] 62)).setCell ⟨wr.heap.size, 2, none⟩ (.int .i64 0)).setCell ⟨wr.heap.size, 3, none⟩ (.slice (some ⟨w4.heap.size, 0, none⟩) 1 1)) w2.heap.size (.slice a0 m0 c0) lk) := hJ ((HOc.out.frame (fun q hq hs => HKd.out q hq (by rcases hs with hs | hs; exact (by have := hs.1; omega); exact (by have := HO.out.base_le q hs; omega))) (by simp <;> omega)).mono (fun q hq _ => hq.1))
      have hzd : wr.heap.size < (((w4.alloc (.cells #[.string ((⟨#[110]⟩ : Str) ++ dd), .int .i64 1] 62)).setCell ⟨wr.heap.size, 2, none⟩ (.int .i64 0)).setCell ⟨wr.heap.size, 3, none⟩ (.slice (some ⟨w4.heap.size, 0, none⟩) 1 1)).heap.size := by simp <;> omega
      have HZd := hJ hzd; clear hzd
      go_wp2_with (at_builtin; refine kA8 kD4 rfl _ _ rfl w2.heap.size _ _ rfl (HOd.out.alloc _) _ y [.int .i64 1, .string nv, .int .i64 0, .slice (some ⟨w4.heap.size, 0, none⟩) 1 1, .string ⟨#[]⟩, .slice da 0 dc, .string ⟨#[]⟩] rfl (RBnd.below HRY.out ((Below.refl _ _).alloc (Nat.le_refl _) _)) (kA4 103 (by (simp only [kAG, kAE, Array.getElem?_push, Array.size_push]; simp))) (by have := HLk.out; omega) (by have := HLk.out; unfold maxLen; omega) (by have := HZd.out; simp at this ⊢; omega) ?_; intro v9 w9 hown9 hb9 hk9; obtain ⟨a9, m9, c9, rfl⟩ := hown9.shape)
      have HG9 : Hid (Bx w9 (w.heap.size + 1) 100 (cntV L (k + 1))) := hJ (by rw [HR1.out.2, HCV0.out]; exact (HGd.out.alloc _).kp hk9 (HO.out.ne (by omega)))
      have HK9 : Hid (∀ q, q < w2.heap.size → q ≠ w.heap.size + 1 → w9.heap[q]? = w2.heap[q]?) := hJ (fun q hq hne => (hk9.block q (by have := HZd.out; simp at this ⊢; omega) (HO.out.ne hq)).trans ((Below.heap_alloc _ _ _ (by have := HZd.out; omega)).trans ((HKd.out q (by omega) hne).trans (HK.out q hq hne))))
      have hz9 : w2.heap.size ≤ w9.heap.size := by have h1 := hb9.size; have h2 := HZd.out; simp at h1 h2; omega
      have HB9 : Hid (Below w.heap.size w w9) := hJ ((HBd.out.alloc HBd.out.size _).trans (hb9.mono (by omega)))
      go_roundw
      case rel => exact ⟨k + 1, _, by omega, by go_num, rfl, hJ (by rw [HNext.out]; exact hown9), HG9, HK9, HB9.out, hz9⟩
      case measure => simp [intOf]; omega
    · skip
      have hkd : kd = 2 := hok
      subst hkd; have HR1 := hJ (HRen.out.at2 rfl); rw [HCe.out.2.1] at HR1; clear HRen; have HP := hJ (Bx.fresh wr 103 [.int .i64 2, .string nv, .int .i64 0, .slice ta 0 tc, .string ⟨#[]⟩, .slice da 0 dc, .string ⟨#[]⟩]); have HGa := hJ (HGq.out.alloc (.cells #[.int .i64 2, .string nv, .int .i64 0, .slice ta 0 tc, .string ⟨#[]⟩, .slice da 0 dc, .string ⟨#[]⟩] 103)); have p0 := HP.out.cell 0 _ rfl; have g1 := HGa.out.cell 2 _ rfl; have v1 := HGa.out.fz 2; have HG1 := hJ (HGa.out.set 2 (.int .i64 ((n2 : Int) + 1))); have h1 := HG1.out.cell 2 _ rfl
      have HP1 : Hid (Bx ((wr.alloc (.cells #[.int .i64 2, .string nv, .int .i64 0, .slice ta 0 tc, .string ⟨#[]⟩, .slice da 0 dc, .string ⟨#[]⟩] 103)).setCell ⟨w.heap.size + 1, 2, none⟩ (.int .i64 ((n2 : Int) + 1))) wr.heap.size 103 [.int .i64 2, .string nv, .int .i64 0, .slice ta 0 tc, .string ⟨#[]⟩, .slice da 0 dc, .string ⟨#[]⟩]) := hJ (HP.out.other (by show w.heap.size + 1 ≠ _; omega))
      have HKb : Hid (∀ q, q < wr.heap.size → q ≠ w.heap.size + 1 → ((wr.alloc (.cells #[.int .i64 2, .string nv, .int .i64 0, .slice ta 0 tc, .string ⟨#[]⟩, .slice da 0 dc, .string ⟨#[]⟩] 103)).setCell ⟨w.heap.size + 1, 2, none⟩ (.int .i64 ((n2 : Int) + 1))).heap[q]? = wr.heap[q]?) := hJ (fun q hq hne => (kAA (fun e => hne e.symm)).trans (Below.heap_alloc _ _ _ hq))
      have HBb : Hid (Below w.heap.size w ((wr.alloc (.cells #[.int .i64 2, .string nv, .int .i64 0, .slice ta 0 tc, .string ⟨#[]⟩, .slice da 0 dc, .string ⟨#[]⟩] 103)).setCell ⟨w.heap.size + 1, 2, none⟩ (.int .i64 ((n2 : Int) + 1)))) := hJ ((hB.alloc hB.size _).setCell (by simp) _)
      have hzb : ((wr.alloc (.cells #[.int .i64 2, .string nv, .int .i64 0, .slice ta 0 tc, .string ⟨#[]⟩, .slice da 0 dc, .string ⟨#[]⟩] 103)).setCell ⟨w.heap.size + 1, 2, none⟩ (.int .i64 ((n2 : Int) + 1))).heap.size = wr.heap.size + 1 := by simp
      have HZb := hJ hzb; clear hzb; have r0 := HP1.out.cell 0 _ rfl
      have HCd := hJ (kEO (n2 + 1) (by omega) (by omega) ((wr.alloc (.cells #[.int .i64 2, .string nv, .int .i64 0, .slice ta 0 tc, .string ⟨#[]⟩, .slice da 0 dc, .string ⟨#[]⟩] 103)).setCell ⟨w.heap.size + 1, 2, none⟩ (.int .i64 ((n2 : Int) + 1))))
      rw [Int.natCast_add, Int.natCast_one] at HCd; clear HGa HP
      go_wp2_with fail
      refine HCd.out.mono ?_
      rintro e w4 ⟨rfl, hb4⟩
      clear HCd
      have hz4 : wr.heap.size + 1 ≤ w4.heap.size := by have := hb4.size; rw [HZb.out] at this; exact this
      have HP4 := hJ (HP1.out.below hb4 (by rw [HZb.out]; omega))
      have HG4 := hJ (HG1.out.below hb4 (by rw [HZb.out]; omega))
      have HK4 : Hid (∀ q, q < wr.heap.size → q ≠ w.heap.size + 1 → w4.heap[q]? = wr.heap[q]?) := hJ (fun q hq hne => (hb4.block q (by rw [HZb.out]; omega)).trans (HKb.out q hq hne))
      have HB4 := hJ (HBb.out.trans (hb4.mono (by rw [HZb.out]; omega)))
      have s0 := HP4.out.cell 0 _ rfl; have s1 := HP4.out.cell 1 _ rfl; have s2 := HP4.out.cell 2 _ rfl; have s3 := HP4.out.cell 3 _ rfl; have s4 := HP4.out.cell 4 _ rfl; have s5 := HP4.out.cell 5 _ rfl; have s6 := HP4.out.cell 6 _ rfl; have v4 := HP4.out.fz; clear HKb HBb HP1 HG1 hb4 r0 h1 g1 v1 p0 HZb e0 e1 e2 e3 e4 e5 e6
      have hds : (decS (n2 + 1)).size ≤ 6 := by
       show (Lib.decDigits (n2 + 1)).length ≤ 6
       exact kEV 5 _ (by omega)
      have HNm : Hid (∀ c : UInt8, (⟨#[c]⟩ : Str) ++ decS (n2 + 1) = nm c (n2 + 1)) := hJ (fun c => rfl)
      generalize decS (n2 + 1) = dd at *
      have HOc := hJ HO.out.cut; have vc4 := HP4.out.fz 4; have c4 := HP4.out.cell 4 _ rfl; have HPd1 := hJ (HP4.out.set 4 (.string ((⟨#[114]⟩ : Str) ++ dd))); have vd5 := HPd1.out.fz 5; have d5 := HPd1.out.cell 5 _ rfl; have HPd := hJ (HPd1.out.set 5 (.slice none 0 0)); have q0 := HPd.out.cell 0 _ rfl; have q1 := HPd.out.cell 1 _ rfl; have q2 := HPd.out.cell 2 _ rfl; have q3 := HPd.out.cell 3 _ rfl; have q4 := HPd.out.cell 4 _ rfl; have q5 := HPd.out.cell 5 _ rfl; have q6 := HPd.out.cell 6 _ rfl
      have HKd : Hid (∀ q, q < wr.heap.size → q ≠ w.heap.size + 1 → ((w4.setCell ⟨wr.heap.size, 4, none⟩ (.string ((⟨#[114]⟩ : Str) ++ dd))).setCell ⟨wr.heap.size, 5, none⟩ (.slice none 0 0)).heap[q]? = wr.heap[q]?) := hJ (fun q hq hne => (kAA (by show wr.heap.size ≠ q; omega)).trans ((kAA (by show wr.heap.size ≠ q; omega)).trans (HK4.out q hq hne)))
      have HGd := hJ ((HG4.out.other (a := ⟨wr.heap.size, 4, none⟩) (u := .string ((⟨#[114]⟩ : Str) ++ dd)) (by show wr.heap.size ≠ _; omega)).other (a := ⟨wr.heap.size, 5, none⟩) (u := .slice none 0 0) (by show wr.heap.size ≠ _; omega))
      have HBd : Hid (Below w.heap.size w ((w4.setCell ⟨wr.heap.size, 4, none⟩ (.string ((⟨#[114]⟩ : Str) ++ dd))).setCell ⟨wr.heap.size, 5, none⟩ (.slice none 0 0))) := hJ ((HB4.out.setCell (by show w.heap.size ≤ wr.heap.size; omega) _).setCell (by show w.heap.size ≤ wr.heap.size; omega) _)
      have HRY : Hid (RBnd.rd (fun q => w2.heap.size ≤ q ∧ (Value.slice a0 m0 c0).ownBlock ≠ some q) ((w4.setCell ⟨wr.heap.size, 4, none⟩ (.string ((⟨#[114]⟩ : Str) ++ dd))).setCell ⟨wr.heap.size, 5, none⟩ (.slice none 0 0)) [.int .i64 2, .string nv, .int .i64 0, .slice ta 0 tc, .string ((⟨#[114]⟩ : Str) ++ dd), .slice none 0 0, .string ⟨#[]⟩] y) := hJ (by
       rw [← HYe.out, HR1.out.1, ← HNm.out]
       exact ⟨_, _, rfl, ⟨ta, tc, rfl, Sl.zero HTa.out.1 HTa.out.2⟩, ⟨none, 0, rfl, Sl.empty _ _ _⟩⟩)
      have HOd : Hid (Own RBnd 103 (fun q => w2.heap.size ≤ q) ((w4.setCell ⟨wr.heap.size, 4, none⟩ (.string ((⟨#[114]⟩ : Str) ++ dd))).setCell ⟨wr.heap.size, 5, none⟩ (.slice none 0 0)) w2.heap.size (.slice a0 m0 c0) lk) := hJ ((HOc.out.frame (fun q hq hs => HKd.out q hq (by rcases hs with hs | hs; exact (by have := hs.1; omega); exact (by have := HO.out.base_le q hs; omega))) (by simp <;> omega)).mono (fun q hq _ => hq.1))
      have hzd : wr.heap.size < ((w4.setCell ⟨wr.heap.size, 4, none⟩ (.string ((⟨#[114]⟩ : Str) ++ dd))).setCell ⟨wr.heap.size, 5, none⟩ (.slice none 0 0)).heap.size := by simp <;> omega
      have HZd := hJ hzd; clear hzd
      go_wp2_with (at_builtin; refine kA8 kD4 rfl _ _ rfl w2.heap.size _ _ rfl (HOd.out.alloc _) _ y [.int .i64 2, .string nv, .int .i64 0, .slice ta 0 tc, .string ((⟨#[114]⟩ : Str) ++ dd), .slice none 0 0, .string ⟨#[]⟩] rfl (RBnd.below HRY.out ((Below.refl _ _).alloc (Nat.le_refl _) _)) (kA4 103 (by (simp only [kAG, kAE, Array.getElem?_push, Array.size_push]; simp))) (by have := HLk.out; omega) (by have := HLk.out; unfold maxLen; omega) (by have := HZd.out; simp at this ⊢; omega) ?_; intro v9 w9 hown9 hb9 hk9; obtain ⟨a9, m9, c9, rfl⟩ := hown9.shape)
      have HG9 : Hid (Bx w9 (w.heap.size + 1) 100 (cntV L (k + 1))) := hJ (by rw [HR1.out.2, HCV0.out]; exact (HGd.out.alloc _).kp hk9 (HO.out.ne (by omega)))
      have HK9 : Hid (∀ q, q < w2.heap.size → q ≠ w.heap.size + 1 → w9.heap[q]? = w2.heap[q]?) := hJ (fun q hq hne => (hk9.block q (by have := HZd.out; simp at this ⊢; omega) (HO.out.ne hq)).trans ((Below.heap_alloc _ _ _ (by have := HZd.out; omega)).trans ((HKd.out q (by omega) hne).trans (HK.out q hq hne))))
      have hz9 : w2.heap.size ≤ w9.heap.size := by have h1 := hb9.size; have h2 := HZd.out; simp at h1 h2; omega
      have HB9 : Hid (Below w.heap.size w w9) := hJ ((HBd.out.alloc HBd.out.size _).trans (hb9.mono (by omega)))
      go_roundw
      case rel => exact ⟨k + 1, _, by omega, by go_num, rfl, hJ (by rw [HNext.out]; exact hown9), HG9, HK9, HB9.out, hz9⟩
      case measure => simp [intOf]; omega
    · skip
      have hkd : kd = 3 := hok
      subst hkd; have HR1 := hJ (HRen.out.at3 rfl); rw [HCe.out.2.2] at HR1; clear HRen; have HP := hJ (Bx.fresh wr 103 [.int .i64 3, .string nv, .int .i64 0, .slice ta 0 tc, .string ⟨#[]⟩, .slice da 0 dc, .string ⟨#[]⟩]); have HGa := hJ (HGq.out.alloc (.cells #[.int .i64 3, .string nv, .int .i64 0, .slice ta 0 tc, .string ⟨#[]⟩, .slice da 0 dc, .string ⟨#[]⟩] 103)); have p0 := HP.out.cell 0 _ rfl; have g1 := HGa.out.cell 3 _ rfl; have v1 := HGa.out.fz 3; have HG1 := hJ (HGa.out.set 3 (.int .i64 ((n3 : Int) + 1))); have h1 := HG1.out.cell 3 _ rfl
      have HP1 : Hid (Bx ((wr.alloc (.cells #[.int .i64 3, .string nv, .int .i64 0, .slice ta 0 tc, .string ⟨#[]⟩, .slice da 0 dc, .string ⟨#[]⟩] 103)).setCell ⟨w.heap.size + 1, 3, none⟩ (.int .i64 ((n3 : Int) + 1))) wr.heap.size 103 [.int .i64 3, .string nv, .int .i64 0, .slice ta 0 tc, .string ⟨#[]⟩, .slice da 0 dc, .string ⟨#[]⟩]) := hJ (HP.out.other (by show w.heap.size + 1 ≠ _; omega))
      have HKb : Hid (∀ q, q < wr.heap.size → q ≠ w.heap.size + 1 → ((wr.alloc (.cells #[.int .i64 3, .string nv, .int .i64 0, .slice ta 0 tc, .string ⟨#[]⟩, .slice da 0 dc, .string ⟨#[]⟩] 103)).setCell ⟨w.heap.size + 1, 3, none⟩ (.int .i64 ((n3 : Int) + 1))).heap[q]? = wr.heap[q]?) := hJ (fun q hq hne => (kAA (fun e => hne e.symm)).trans (Below.heap_alloc _ _ _ hq))
      have HBb : Hid (Below w.heap.size w ((wr.alloc (.cells #[.int .i64 3, .string nv, .int .i64 0, .slice ta 0 tc, .string ⟨#[]⟩, .slice da 0 dc, .string ⟨#[]⟩] 103)).setCell ⟨w.heap.size + 1, 3, none⟩ (.int .i64 ((n3 : Int) + 1)))) := hJ ((hB.alloc hB.size _).setCell (by simp) _)
      have hzb : ((wr.alloc (.cells #[.int .i64 3, .string nv, .int .i64 0, .slice ta 0 tc, .string ⟨#[]⟩, .slice da 0 dc, .string ⟨#[]⟩] 103)).setCell ⟨w.heap.size + 1, 3, none⟩ (.int .i64 ((n3 : Int) + 1))).heap.size = wr.heap.size + 1 := by simp
      have HZb := hJ hzb; clear hzb; have r0 := HP1.out.cell 0 _ rfl
      have HCd := hJ (kEO (n3 + 1) (by omega) (by omega) ((wr.alloc (.cells #[.int .i64 3, .string nv, .int .i64 0, .slice ta 0 tc, .string ⟨#[]⟩, .slice da 0 dc, .string ⟨#[]⟩] 103)).setCell ⟨w.heap.size + 1, 3, none⟩ (.int .i64 ((n3 : Int) + 1))))
      rw [Int.natCast_add, Int.natCast_one] at HCd; clear HGa HP
      go_wp2_with fail
      refine HCd.out.mono ?_
      rintro e w4 ⟨rfl, hb4⟩
      clear HCd
      have hz4 : wr.heap.size + 1 ≤ w4.heap.size := by have := hb4.size; rw [HZb.out] at this; exact this
      have HP4 := hJ (HP1.out.below hb4 (by rw [HZb.out]; omega))
      have HG4 := hJ (HG1.out.below hb4 (by rw [HZb.out]; omega))
      have HK4 : Hid (∀ q, q < wr.heap.size → q ≠ w.heap.size + 1 → w4.heap[q]? = wr.heap[q]?) := hJ (fun q hq hne => (hb4.block q (by rw [HZb.out]; omega)).trans (HKb.out q hq hne))
      have HB4 := hJ (HBb.out.trans (hb4.mono (by rw [HZb.out]; omega)))
      have s0 := HP4.out.cell 0 _ rfl; have s1 := HP4.out.cell 1 _ rfl; have s2 := HP4.out.cell 2 _ rfl; have s3 := HP4.out.cell 3 _ rfl; have s4 := HP4.out.cell 4 _ rfl; have s5 := HP4.out.cell 5 _ rfl; have s6 := HP4.out.cell 6 _ rfl; have v4 := HP4.out.fz; clear HKb HBb HP1 HG1 hb4 r0 h1 g1 v1 p0 HZb e0 e1 e2 e3 e4 e5 e6
      have hds : (decS (n3 + 1)).size ≤ 6 := by
       show (Lib.decDigits (n3 + 1)).length ≤ 6
       exact kEV 5 _ (by omega)
      have HNm : Hid (∀ c : UInt8, (⟨#[c]⟩ : Str) ++ decS (n3 + 1) = nm c (n3 + 1)) := hJ (fun c => rfl)
      generalize decS (n3 + 1) = dd at *
      have HOc := hJ HO.out.cut; have vc6 := HP4.out.fz 6; have c6 := HP4.out.cell 6 _ rfl; have HPd := hJ (HP4.out.set 6 (.string ((⟨#[65]⟩ : Str) ++ dd))); have q0 := HPd.out.cell 0 _ rfl; have q1 := HPd.out.cell 1 _ rfl; have q2 := HPd.out.cell 2 _ rfl; have q3 := HPd.out.cell 3 _ rfl; have q4 := HPd.out.cell 4 _ rfl; have q5 := HPd.out.cell 5 _ rfl; have q6 := HPd.out.cell 6 _ rfl
      have HKd : Hid (∀ q, q < wr.heap.size → q ≠ w.heap.size + 1 → (w4.setCell ⟨wr.heap.size, 6, none⟩ (.string ((⟨#[65]⟩ : Str) ++ dd))).heap[q]? = wr.heap[q]?) := hJ (fun q hq hne => (kAA (by show wr.heap.size ≠ q; omega)).trans (HK4.out q hq hne))
      have HGd := hJ (HG4.out.other (a := ⟨wr.heap.size, 6, none⟩) (u := .string ((⟨#[65]⟩ : Str) ++ dd)) (by show wr.heap.size ≠ _; omega))
      have HBd : Hid (Below w.heap.size w (w4.setCell ⟨wr.heap.size, 6, none⟩ (.string ((⟨#[65]⟩ : Str) ++ dd)))) := hJ (HB4.out.setCell (by show w.heap.size ≤ wr.heap.size; omega) _)
      have HRY : Hid (RBnd.rd (fun q => w2.heap.size ≤ q ∧ (Value.slice a0 m0 c0).ownBlock ≠ some q) (w4.setCell ⟨wr.heap.size, 6, none⟩ (.string ((⟨#[65]⟩ : Str) ++ dd))) [.int .i64 3, .string nv, .int .i64 0, .slice ta 0 tc, .string ⟨#[]⟩, .slice da 0 dc, .string ((⟨#[65]⟩ : Str) ++ dd)] y) := hJ (by
       rw [← HYe.out, HR1.out.1, ← HNm.out]
       exact ⟨_, _, rfl, ⟨ta, tc, rfl, Sl.zero HTa.out.1 HTa.out.2⟩, ⟨da, dc, rfl, Sl.zero HDa.out.1 HDa.out.2⟩⟩)
      have HOd : Hid (Own RBnd 103 (fun q => w2.heap.size ≤ q) (w4.setCell ⟨wr.heap.size, 6, none⟩ (.string ((⟨#[65]⟩ : Str) ++ dd))) w2.heap.size (.slice a0 m0 c0) lk) := hJ ((HOc.out.frame (fun q hq hs => HKd.out q hq (by rcases hs with hs | hs; exact (by have := hs.1; omega); exact (by have := HO.out.base_le q hs; omega))) (by simp <;> omega)).mono (fun q hq _ => hq.1))
      have hzd : wr.heap.size < (w4.setCell ⟨wr.heap.size, 6, none⟩ (.string ((⟨#[65]⟩ : Str) ++ dd))).heap.size := by simp <;> omega
      have HZd := hJ hzd; clear hzd
      go_wp2_with (at_builtin; refine kA8 kD4 rfl _ _ rfl w2.heap.size _ _ rfl (HOd.out.alloc _) _ y [.int .i64 3, .string nv, .int .i64 0, .slice ta 0 tc, .string ⟨#[]⟩, .slice da 0 dc, .string ((⟨#[65]⟩ : Str) ++ dd)] rfl (RBnd.below HRY.out ((Below.refl _ _).alloc (Nat.le_refl _) _)) (kA4 103 (by (simp only [kAG, kAE, Array.getElem?_push, Array.size_push]; simp))) (by have := HLk.out; omega) (by have := HLk.out; unfold maxLen; omega) (by have := HZd.out; simp at this ⊢; omega) ?_; intro v9 w9 hown9 hb9 hk9; obtain ⟨a9, m9, c9, rfl⟩ := hown9.shape)
      have HG9 : Hid (Bx w9 (w.heap.size + 1) 100 (cntV L (k + 1))) := hJ (by rw [HR1.out.2, HCV0.out]; exact (HGd.out.alloc _).kp hk9 (HO.out.ne (by omega)))
      have HK9 : Hid (∀ q, q < w2.heap.size → q ≠ w.heap.size + 1 → w9.heap[q]? = w2.heap[q]?) := hJ (fun q hq hne => (hk9.block q (by have := HZd.out; simp at this ⊢; omega) (HO.out.ne hq)).trans ((Below.heap_alloc _ _ _ (by have := HZd.out; omega)).trans ((HKd.out q (by omega) hne).trans (HK.out q hq hne))))
      have hz9 : w2.heap.size ≤ w9.heap.size := by have h1 := hb9.size; have h2 := HZd.out; simp at h1 h2; omega
      have HB9 : Hid (Below w.heap.size w w9) := hJ ((HBd.out.alloc HBd.out.size _).trans (hb9.mono (by omega)))
      go_roundw
      case rel => exact ⟨k + 1, _, by omega, by go_num, rfl, hJ (by rw [HNext.out]; exact hown9), HG9, HK9, HB9.out, hz9⟩
      case measure => simp [intOf]; omega
  · have HAll : Hid ((ren L).take k = ren L) := hJ (List.take_of_length_le (by rw [kFB, HN.out]; omega))
    go_wp2_with fail
    go_ret
    exact ⟨⟨_, rfl, by have := (HO.out.lower (base' := w.heap.size) (by omega)).mono (S' := fun q => w.heap.size ≤ q) (fun q hq _ => by have hq : w2.heap.size ≤ q := hq; omega); rwa [HAll.out] at this⟩, hB⟩
end Go.Proofs.YtjongcdlginjlaaGreatDoor
