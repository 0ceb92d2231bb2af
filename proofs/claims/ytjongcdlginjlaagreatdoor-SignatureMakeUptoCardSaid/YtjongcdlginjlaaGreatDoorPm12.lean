/- The claim's texts, part 12: contracts of the functions that the statement reaches, and what they say of the data. -/
import Derived.Test.YtjongcdlginjlaaGreatDoorPm11
set_option maxRecDepth 100000
set_option maxHeartbeats 8000000
set_option linter.all false
namespace Go.Proofs.YtjongcdlginjlaaGreatDoor
open Go.Proofs.Tryz
open Go.RowKit
theorem ref57_Narrow {S T : Blk} {x : Ifc} {a : Option Addr} {c : Nat} {ns : List Str} {a2 : Option Addr} {n2 c2 : Nat} {w : World} (hs : Sl REnt S w a x.entries.length c x.entries) (hns : Sl RStr T w a2 n2 c2 ns) (hn2 : n2 ≤ 100) (hz : ∀ e ∈ x.entries, szS e.scheme ∧ e.name.size ≤ 281474976710656 ∧ e.scheme.params.length ≤ 1000000) (hmz : x.module_.size ≤ 281474976710656) :
 Calls Tryz.prog 17 #[.agg #[.string x.module_, .slice a x.entries.length c], .slice a2 n2 c2] w fun e w' => (∃ (A : Ifc) (ev : Int) (a' : Option Addr) (c' : Nat), e = .returned (.tuple #[.agg #[.string A.module_, .slice a' A.entries.length c'], .int .i64 ev]) ∧ NarS x ns A ev ∧ Sl REnt (fun k => S k ∨ w.heap.size ≤ k) w' a' A.entries.length c' A.entries) ∧ Below w.heap.size w w' := by
 have hm := hs.small
 have HV := hJ (fun (W : World) (hW : Below w.heap.size w W) => kF6 (hs.below hW) hz hmz)
 have HFn := hJ (fun (L : Nat) (W : World) (hW : Below w.heap.size w W) (hL : w.heap.size ≤ L) (s : Str) => ref57_Find (S := fun k => k < L) ((hs.mono (S' := fun k => k < L) (fun k _ h => Nat.lt_of_lt_of_le h hL)).below hW) hz hmz s)
 have H := hJ (hs.mono (S' := fun k => S k ∧ k < w.heap.size) (fun k hk h => ⟨hk, h⟩))
 have HNs := hJ (hns.mono (S' := fun k => T k ∧ k < w.heap.size) (fun k hk h => ⟨hk, h⟩))
 have HLn := hJ hns.len; clear hs hz hns; obtain ⟨bv, hbv⟩ : ∃ bv, kAS x = bv := ⟨_, rfl⟩; rw [hbv] at HV; have HBv := hJ hbv; clear hbv; obtain ⟨n, hl1⟩ : ∃ n, x.entries.length = n := ⟨_, rfl⟩; rw [hl1] at HV HFn H hm; rw [hl1]; have HL := hJ hl1; clear hl1; obtain ⟨B0, ya, yb, hW0⟩ := box2 w 24 [.string x.module_, .slice a n c] 24 [.string ⟨#[]⟩, .slice none 0 0]; have xa0 := box0 ya 0 _ rfl; have xa1 := box0 ya 1 _ rfl; have xb0 := box0 yb 0 _ rfl; have xb1 := box0 yb 1 _ rfl
 have bka : Bx _ _ _ _ := ya; have bkb : Bx _ _ _ _ := yb
 clear ya yb; have HA0 := hJ bka; have HR0 := hJ bkb; clear bka bkb xb0 xb1
 go_enter func17, ntmps17
 go_wp2_with fail
 refine (HV.out _ B0.out).mono ?_
 rintro e w1 ⟨rfl, hb1⟩
 have HB1 := hJ (B0.out.trans (hb1.mono B0.out.size)); have HA1 := hJ (HA0.out.below hb1 HA0.out.lt); have HR1 := hJ (HR0.out.below hb1 HR0.out.lt)
 have hz1 : w.heap.size + 2 ≤ w1.heap.size := by have := hb1.size; omega
 clear hb1 HA0 HR0 xa0 xa1 B0 hW0
 cases bv with
 | false =>
   have HF : Hid (NarS x ns kCL 1) := hJ (nars_bad HBv.out)
   have HB2 := HB1; have HR2 := HR1; have z0 := HR2.out.cell 0 _ rfl; have z1 := HR2.out.cell 1 _ rfl; have f0 := HR2.out.fz 0; have f1 := HR2.out.fz 1; have hl0 := HR2.out.lt; have HZz := hJ ((HR2.out.set 0 (.string ⟨#[]⟩)).set 1 (.slice none 0 0)); have s0 := HZz.out.cell 0 _ rfl; have s1 := HZz.out.cell 1 _ rfl
   go_wp2_with fail
   refine bodyPost_ret (v := .tuple #[.agg #[.string ⟨#[]⟩, .slice none 0 0], .int .i64 1]) (by simp [results, results17, go_sem, s0, s1, hl0]) rfl ?_
   exact ⟨⟨kCL, 1, none, 0, rfl, HF.out, Sl.empty _ _ _⟩, (HB2.out.setCell (by show w.heap.size ≤ w.heap.size + 1; omega) _).setCell (by show w.heap.size ≤ w.heap.size + 1; omega) _⟩
 | true =>
   have d0 := HA1.out.cell 0 _ rfl; have d1 := HA1.out.cell 1 _ rfl
   have hbA : Below w1.heap.size w1 (w1.alloc (.cells #[.string x.module_, .slice none 0 0] 24)) := (Below.refl _ _).alloc (Nat.le_refl _) _
   have hz2 : (w1.alloc (.cells #[.string x.module_, .slice none 0 0] 24)).heap.size = w1.heap.size + 1 := by simp
   have HX2 := hJ (Bx.fresh w1 24 [.string x.module_, .slice none 0 0]); have HA2 := hJ (HA1.out.below hbA HA1.out.lt); have HR2' := hJ (HR1.out.below hbA HR1.out.lt); have HB2' := hJ (HB1.out.trans (hbA.mono HB1.out.size)); clear hbA HA1 HR1 HB1
   go_wp2_with fail
   clear d0 d1
   generalize (w1.alloc (.cells #[.string x.module_, .slice none 0 0] 24)) = W2 at *
   replace HX2 : Hid (Bx W2 w1.heap.size 24 [.string x.module_, .slice none 0 0]) := HX2
   go_loopw [7] (fun i wr => ∃ j : Nat, j ≤ n2 ∧ i = .int .i64 j ∧ Hid (∀ q, q < j → ∃ y ∈ x.entries, y.name = ns.getD q default) ∧ Hid (Bx wr w.heap.size 24 [.string x.module_, .slice a n c]) ∧ Hid (Bx wr (w.heap.size + 1) 24 [.string ⟨#[]⟩, .slice none 0 0]) ∧ Hid (Bx wr w1.heap.size 24 [.string x.module_, .slice none 0 0]) ∧ Below w.heap.size w wr ∧ w1.heap.size + 1 ≤ wr.heap.size) (fun i _ => n2 - (intOf i).toNat)
   case atStart => exact ⟨0, Nat.zero_le _, rfl, hJ (fun q hq => absurd hq (by omega)), HA2, HR2', HX2, HB2'.out, by omega⟩
   case round =>
    clear HA2 HR2' HX2 HB2' hz2; obtain ⟨j, hj, rfl, HT, HA, HR, HX, hB, hsz⟩ := hrel
    by_cases hlt : j < n2
    · obtain ⟨gn, on, rfl, hgnW, _⟩ := HNs.out.form j hlt
      have xn := (HNs.out.below hB).str j hlt
      have HMem : Hid (ns.getD j default ∈ ns) := hJ (kAI (by rw [HLn.out]; exact hlt))
      have HTn := hJ (fun q => upto HT.out (p := fun q => ∃ y ∈ x.entries, y.name = ns.getD q default) q)
      have HFd := hJ (fun (W : World) (hW : Below wr.heap.size wr W) => HFn.out wr.heap.size W (hB.trans (hW.mono hB.size)) hB.size (ns.getD j default))
      have x0 := HA.out.cell 0 _ rfl; have x1 := HA.out.cell 1 _ rfl
      have hgl : w.heap.size < wr.heap.size := HA.out.lt
      have hgn : gn < wr.heap.size := by have := hB.size; omega
      generalize ns.getD j default = s at *
      go_upto_region 7 with fail
      go_cut [8, 9] (fun va vb W => ∃ (g : Nat) (r : Sch) (ok : Bool) (p5 : Option Addr) (pc5 : Nat) (t5 : Option Addr) (tc5 : Nat) (q5 : Option Addr) (qc5 : Nat), va = .pointer (some ⟨g, 0, none⟩) ∧ vb = .bool ok ∧ wr.heap.size ≤ g ∧ Hid (Bx W g 41 [.slice p5 r.params.length pc5, .string r.result.elem, .string r.result.shape.row, .slice t5 r.result.shape.dims.length tc5, .slice q5 r.wh.length qc5]) ∧ Hid (kE2 x s r ok) ∧ Hid (RSch.rd (fun k => k < wr.heap.size) W [.slice p5 r.params.length pc5, .string r.result.elem, .string r.result.shape.row, .slice t5 r.result.shape.dims.length tc5, .slice q5 r.wh.length qc5] r) ∧ Hid (Below wr.heap.size wr W))
      case first =>
       go_region_held3 (fun W => W.cell? ⟨w.heap.size, 0, none⟩ = some (.string x.module_) ∧ W.cell? ⟨w.heap.size, 1, none⟩ = some (.slice a n c) ∧ W.cell? ⟨gn, on + j, none⟩ = some (.string s)) (first | (with_reducible exact ⟨b0, b1, b2⟩) | (with_reducible exact ⟨x0, x1, xn⟩) | go_keep) (first
        | (go_at_call 20
           refine (HFd.out wr.drew ((Below.refl _ _).drew)).mono ?_
           rintro e w6 ⟨⟨r, ok, ds, rfl, hfs, hrd⟩, hb6⟩
           have hB6 : Below wr.heap.size wr w6 := Below.trans ((Below.refl wr.heap.size wr).drew) (hb6.mono (by simp))
           have hrd2 : RSch.rd (fun k => k < wr.heap.size) w6 ds r := RSch.mono hrd (fun k hk _ => hk.1)
           clear hrd; obtain ⟨_, _, _, rfl, ⟨p5, pc5, rfl, hp5⟩, ⟨t5, tc5, rfl, ht5⟩, ⟨q5, qc5, rfl, hq5⟩⟩ := hrd2
           have hRd6 : RSch.rd (fun k => k < wr.heap.size) w6 [.slice p5 r.params.length pc5, .string r.result.elem, .string r.result.shape.row, .slice t5 r.result.shape.dims.length tc5, .slice q5 r.wh.length qc5] r := ⟨_, _, _, rfl, ⟨p5, pc5, rfl, hp5⟩, ⟨t5, tc5, rfl, ht5⟩, ⟨q5, qc5, rfl, hq5⟩⟩
           clear hp5 ht5 hq5; have b0 := kAC x0 _ hB6; have b1 := kAC x1 _ hB6; have b2 := kAC xn _ hB6
           )
        | (go_at_call 20
           refine (HFd.out wr (Below.refl _ _)).mono ?_
           rintro e w6 ⟨⟨r, ok, ds, rfl, hfs, hrd⟩, hb6⟩
           have hB6 : Below wr.heap.size wr w6 := Below.trans (Below.refl wr.heap.size wr) (hb6.mono (by simp))
           have hrd2 : RSch.rd (fun k => k < wr.heap.size) w6 ds r := RSch.mono hrd (fun k hk _ => hk.1)
           clear hrd; obtain ⟨_, _, _, rfl, ⟨p5, pc5, rfl, hp5⟩, ⟨t5, tc5, rfl, ht5⟩, ⟨q5, qc5, rfl, hq5⟩⟩ := hrd2
           have hRd6 : RSch.rd (fun k => k < wr.heap.size) w6 [.slice p5 r.params.length pc5, .string r.result.elem, .string r.result.shape.row, .slice t5 r.result.shape.dims.length tc5, .slice q5 r.wh.length qc5] r := ⟨_, _, _, rfl, ⟨p5, pc5, rfl, hp5⟩, ⟨t5, tc5, rfl, ht5⟩, ⟨q5, qc5, rfl, hq5⟩⟩
           clear hp5 ht5 hq5; have b0 := kAC x0 _ hB6; have b1 := kAC x1 _ hB6; have b2 := kAC xn _ hB6
           )
        | (go_at_call 20
           refine (HFd.out (wr.alloc (.cells #[.slice none 0 0, .string ⟨#[]⟩, .string ⟨#[]⟩, .slice none 0 0, .slice none 0 0] 41)).drew (((Below.refl _ _).alloc (Nat.le_refl _) _).drew)).mono ?_
           rintro e w6 ⟨⟨r, ok, ds, rfl, hfs, hrd⟩, hb6⟩
           have HP6 : Hid (Bx w6 wr.heap.size 41 [.slice none 0 0, .string ⟨#[]⟩, .string ⟨#[]⟩, .slice none 0 0, .slice none 0 0]) := hJ (Bx.below (Bx.fresh wr _ _) hb6 (by simp))
           have hl6 := HP6.out.lt
           have hn1 : ¬ wr.heap.size = w.heap.size := by omega
           have hn2 : ¬ w.heap.size = wr.heap.size := by omega
           have hn3 : ¬ wr.heap.size = gn := by omega
           have hn4 : ¬ gn = wr.heap.size := by omega
           have c0 := HP6.out.cell 0 _ rfl; have f0 := HP6.out.fz 0; have c1 := HP6.out.cell 1 _ rfl; have f1 := HP6.out.fz 1; have c2 := HP6.out.cell 2 _ rfl; have f2 := HP6.out.fz 2; have c3 := HP6.out.cell 3 _ rfl; have f3 := HP6.out.fz 3; have c4 := HP6.out.cell 4 _ rfl; have f4 := HP6.out.fz 4
           have hB6 : Below wr.heap.size wr w6 := Below.trans (((Below.refl wr.heap.size wr).alloc Nat.le.refl (.cells #[.slice none 0 0, .string ⟨#[]⟩, .string ⟨#[]⟩, .slice none 0 0, .slice none 0 0] 41)).drew) (hb6.mono (by simp))
           have hrd2 : RSch.rd (fun k => k < wr.heap.size) w6 ds r := RSch.mono hrd (fun k hk _ => hk.1)
           clear hrd; obtain ⟨_, _, _, rfl, ⟨p5, pc5, rfl, hp5⟩, ⟨t5, tc5, rfl, ht5⟩, ⟨q5, qc5, rfl, hq5⟩⟩ := hrd2
           have hRd6 : RSch.rd (fun k => k < wr.heap.size) w6 [.slice p5 r.params.length pc5, .string r.result.elem, .string r.result.shape.row, .slice t5 r.result.shape.dims.length tc5, .slice q5 r.wh.length qc5] r := ⟨_, _, _, rfl, ⟨p5, pc5, rfl, hp5⟩, ⟨t5, tc5, rfl, ht5⟩, ⟨q5, qc5, rfl, hq5⟩⟩
           clear hp5 ht5 hq5; have b0 := kAC x0 _ hB6; have b1 := kAC x1 _ hB6; have b2 := kAC xn _ hB6
           )
        | (go_at_call 20
           refine (HFd.out (wr.drew.alloc (.cells #[.slice none 0 0, .string ⟨#[]⟩, .string ⟨#[]⟩, .slice none 0 0, .slice none 0 0] 41)) (((Below.refl _ _).drew).alloc (Nat.le_refl _) _)).mono ?_
           rintro e w6 ⟨⟨r, ok, ds, rfl, hfs, hrd⟩, hb6⟩
           have HP6 : Hid (Bx w6 wr.heap.size 41 [.slice none 0 0, .string ⟨#[]⟩, .string ⟨#[]⟩, .slice none 0 0, .slice none 0 0]) := hJ (Bx.below (Bx.fresh wr.drew _ _) hb6 (by simp))
           have hl6 := HP6.out.lt
           have hn1 : ¬ wr.heap.size = w.heap.size := by omega
           have hn2 : ¬ w.heap.size = wr.heap.size := by omega
           have hn3 : ¬ wr.heap.size = gn := by omega
           have hn4 : ¬ gn = wr.heap.size := by omega
           have c0 := HP6.out.cell 0 _ rfl; have f0 := HP6.out.fz 0; have c1 := HP6.out.cell 1 _ rfl; have f1 := HP6.out.fz 1; have c2 := HP6.out.cell 2 _ rfl; have f2 := HP6.out.fz 2; have c3 := HP6.out.cell 3 _ rfl; have f3 := HP6.out.fz 3; have c4 := HP6.out.cell 4 _ rfl; have f4 := HP6.out.fz 4
           have hB6 : Below wr.heap.size wr w6 := Below.trans (((Below.refl wr.heap.size wr).drew).alloc Nat.le.refl (.cells #[.slice none 0 0, .string ⟨#[]⟩, .string ⟨#[]⟩, .slice none 0 0, .slice none 0 0] 41)) (hb6.mono (by simp))
           have hrd2 : RSch.rd (fun k => k < wr.heap.size) w6 ds r := RSch.mono hrd (fun k hk _ => hk.1)
           clear hrd; obtain ⟨_, _, _, rfl, ⟨p5, pc5, rfl, hp5⟩, ⟨t5, tc5, rfl, ht5⟩, ⟨q5, qc5, rfl, hq5⟩⟩ := hrd2
           have hRd6 : RSch.rd (fun k => k < wr.heap.size) w6 [.slice p5 r.params.length pc5, .string r.result.elem, .string r.result.shape.row, .slice t5 r.result.shape.dims.length tc5, .slice q5 r.wh.length qc5] r := ⟨_, _, _, rfl, ⟨p5, pc5, rfl, hp5⟩, ⟨t5, tc5, rfl, ht5⟩, ⟨q5, qc5, rfl, hq5⟩⟩
           clear hp5 ht5 hq5; have b0 := kAC x0 _ hB6; have b1 := kAC x1 _ hB6; have b2 := kAC xn _ hB6
           ))
       all_goals
        have HRd6 := hJ hRd6; have HFs6 := hJ hfs; have HBB := hJ hB6; have hz6 := hB6.size; clear hRd6 hfs hb6 b0 b1 b2 x0 x1 xn hB6
        go_wp2_with fail
        go_meet
       · exact ⟨w6.heap.size, r, ok, p5, pc5, t5, tc5, q5, qc5, rfl, rfl, hz6, hJ (Bx.fresh w6 _ _), HFs6, hJ (RSch.below HRd6.out ((Below.refl _ _).alloc (Nat.le_refl _) _)), hJ (HBB.out.alloc hz6 _)⟩
       · have hq := put5 (B := wr.heap.size) (g := wr.heap.size) (.slice p5 r.params.length pc5) (.string r.result.elem) (.string r.result.shape.row) (.slice t5 r.result.shape.dims.length tc5) (.slice q5 r.wh.length qc5) HP6.out HRd6.out (fun k hk hlt => by omega) HBB.out (Nat.le_refl _)
         exact ⟨wr.heap.size, r, ok, p5, pc5, t5, tc5, q5, qc5, rfl, rfl, Nat.le_refl _, hq.1, HFs6, hJ (RSch.mono hq.2.2.1.out (fun k hk _ => hk.1)), hq.2.2.2⟩
      case rest =>
       obtain ⟨g6, r, ok, p5, pc5, t5, tc5, q5, qc5, rfl, rfl, hg6, -, HFs, -, HBc⟩ := hcut; have HB2 := hJ (hB.trans (HBc.out.mono hB.size)); have HA2 := hJ (HA.out.below HBc.out HA.out.lt); have HR2 := hJ (HR.out.below HBc.out HR.out.lt); have HX2 := hJ (HX.out.below HBc.out HX.out.lt); have hz2 := HBc.out.size; clear x0 x1 xn HFd
       cases ok with
       | false =>
         have HF : Hid (NarS x ns kCL 7) := hJ (by
          rcases HFs.out with ⟨h, _⟩ | ⟨_, _, h⟩
          · cases h
          · rcases h with h | h
            · rw [HBv.out] at h; cases h
            · exact nars_none HBv.out HMem.out (fun q hq => h _ (kAI hq)))
         clear HTn; have z0 := HR2.out.cell 0 _ rfl; have z1 := HR2.out.cell 1 _ rfl; have f0 := HR2.out.fz 0; have f1 := HR2.out.fz 1; have hl0 := HR2.out.lt; have HZz := hJ ((HR2.out.set 0 (.string ⟨#[]⟩)).set 1 (.slice none 0 0)); have s0 := HZz.out.cell 0 _ rfl; have s1 := HZz.out.cell 1 _ rfl
         go_wp2_with fail
         refine bodyPost_ret (v := .tuple #[.agg #[.string ⟨#[]⟩, .slice none 0 0], .int .i64 7]) (by simp [results, results17, go_sem, s0, s1, hl0]) rfl ?_
         exact ⟨⟨kCL, 7, none, 0, rfl, HF.out, Sl.empty _ _ _⟩, (HB2.out.setCell (by show w.heap.size ≤ w.heap.size + 1; omega) _).setCell (by show w.heap.size ≤ w.heap.size + 1; omega) _⟩
       | true =>
         have HTm := hJ (HTn.out (by
          rcases HFs.out with ⟨_, _, e, he, h, _⟩ | ⟨h, _⟩
          · exact ⟨e, he, h⟩
          · cases h))
         clear HTn
         go_wp2_with fail
         go_roundw
         case rel => exact ⟨j + 1, by omega, by go_num, HTm, HA2, HR2, HX2, HB2.out, by omega⟩
         case measure => simp [intOf]; omega
    · obtain rfl : j = n2 := by omega
      have HAll : Hid (∀ s ∈ ns, ∃ y ∈ x.entries, y.name = s) := hJ (fun s hs => by
       obtain ⟨q, hq, e⟩ := List.getElem_of_mem hs
       have := HT.out q (by rw [HLn.out] at hq; exact hq)
       rw [List.getD_eq_getElem?_getD, List.getElem?_eq_getElem hq] at this
       rw [← e]; exact this)
      clear HT; have HNr := hJ (HNs.out.below hB)
      generalize hw3 : wr = w3 at *
      clear hw3
      go_wp2_with fail
      go_loopw [10] (fun i wr => ∃ (k : Nat) (vO : Value), k ≤ n ∧ i = .int .i64 k ∧ Hid (Own REnt 44 (fun q => S q ∧ q < w.heap.size) wr w3.heap.size vO ((x.entries.take k).filter (kE4 ns))) ∧ Hid (Bx wr w.heap.size 24 [.string x.module_, .slice a n c]) ∧ Hid (Bx wr (w.heap.size + 1) 24 [.string ⟨#[]⟩, .slice none 0 0]) ∧ Hid (Bx wr w1.heap.size 24 [.string x.module_, vO]) ∧ Below w.heap.size w wr ∧ w3.heap.size ≤ wr.heap.size) (fun i _ => n - (intOf i).toNat)
      case atStart => exact ⟨0, _, Nat.zero_le _, rfl, hJ (Own.nil _ _ _ _ _), HA, HR, HX, hB, Nat.le_refl _⟩
      case round =>
       clear HA HR HX hB; obtain ⟨k, vO, hk, rfl, HO, HA, HR, HX, hB, hsq⟩ := hrel; have d1 := HA.out.cell 1 _ rfl
       by_cases hlt2 : k < n
       · obtain ⟨b, off, rfl, hbW, _⟩ := H.out.form k hlt2
         have hkl : k < x.entries.length := by rw [HL.out]; exact hlt2
         have HNx := hJ (want_next (ns := ns) hkl)
         have HWd : Hid (kE4 ns (x.entries.getD k default) = ns.any (fun s => seq s (x.entries.getD k default).name)) := hJ rfl
         have HLk : Hid (((x.entries.take k).filter (kE4 ns)).length ≤ k) := hJ (by
          have h1 := List.length_filter_le (kE4 ns) (x.entries.take k); rw [List.length_take] at h1
          omega)
         have hk60 : k ≤ 60 := by have := valid_len HBv.out; omega
         obtain ⟨_, _, _, hr, ⟨⟨ap, cp, rfl, _⟩, ⟨at_, ct, rfl, _⟩, ⟨aq, cq, rfl, _⟩⟩, c0, c1, c2, c3, c4, c5⟩ := (H.out.below hB).ent k hlt2; have HRd := hJ hr; clear hr hkl
         generalize x.entries.getD k default = y at *
         have hbq : b < wr.heap.size := by have := hB.size; omega
         generalize hw4 : wr = w4 at *
         clear hw4
         go_wp2_with fail
         go_loopw [11, 12] (fun v i wr => ∃ (p : Nat), p ≤ j ∧ i = .int .i64 p ∧ v = .bool ((ns.take p).any (fun s => seq s y.name)) ∧ Below w4.heap.size w4 wr) (fun _ i _ => j - (intOf i).toNat)
         case atStart => exact ⟨0, Nat.zero_le _, rfl, by simp, Below.refl _ _⟩
         case round =>
          obtain ⟨p, hp, rfl, rfl, hBp⟩ := hrel
          have HTp : Hid (∀ h : p < ns.length, (ns.take (p + 1)).any (fun s => seq s y.name) = ((ns.take p).any (fun s => seq s y.name) || seq (ns.getD p default) y.name)) := hJ (fun h => by rw [kAU h, List.any_append]; simp)
          have HTe : Hid (p = j → (ns.take p).any (fun s => seq s y.name) = kE4 ns y) := hJ (fun h => by rw [HWd.out, List.take_of_length_le (by rw [HLn.out]; omega)])
          have g1 := kAC d1 _ hBp; have e0 := kAC c0 _ hBp; have hzp := hBp.size
          by_cases hlt3 : p < j
          · obtain ⟨gn, on, rfl, hgnW, _⟩ := HNs.out.form p hlt3
            have xn := (HNs.out.below (hB.trans (hBp.mono hB.size))).str p hlt3
            have HTq := hJ (HTp.out (by rw [HLn.out]; exact hlt3))
            have HSq : Hid (seq (ns.getD p default) y.name = ((ns.getD p default).toList == y.name.toList)) := hJ rfl
            clear HTp HTe
            generalize (ns.take p).any (fun s => seq s y.name) = bo at *
            generalize ns.getD p default = s at *
            have G1 := Later.cell g1; have E0 := Later.cell e0; have XN := Later.cell xn
            cases bo with
            | true =>
              go_wp2_with fail
              refine kAB (by kernel_rfl) (by kernel_rfl) ?_
              repeat (go_big_quiet_step (fail))
              refine wpQuiet_nil ?_
              rintro _ ⟨t9, rfl⟩
              go_wp2_with fail
              go_roundw
              case rel => exact ⟨p + 1, by omega, by go_num, by rw [HTq.out]; rfl, hBp.trans (t9.b.mono hzp)⟩
              case measure => simp [intOf]; omega
            | false =>
              by_cases hsy : (s.toList == y.name.toList) = true
              · go_wp2_with fail
                refine kAB (by kernel_rfl) (by kernel_rfl) ?_
                repeat (go_big_quiet_step (fail))
                refine wpQuiet_nil ?_
                rintro _ ⟨t9, rfl⟩
                go_wp2_with fail
                go_roundw
                case rel => exact ⟨p + 1, by omega, by go_num, by rw [HTq.out, HSq.out, hsy]; rfl, hBp.trans (t9.b.mono hzp)⟩
                case measure => simp [intOf]; omega
              · have hsy : (s.toList == y.name.toList) = false := by simpa using hsy
                go_wp2_with fail
                refine kAB (by kernel_rfl) (by kernel_rfl) ?_
                repeat (go_big_quiet_step (fail))
                refine wpQuiet_nil ?_
                rintro _ ⟨t9, rfl⟩
                go_wp2_with fail
                go_roundw
                case rel => exact ⟨p + 1, by omega, by go_num, by rw [HTq.out, HSq.out, hsy]; rfl, hBp.trans (t9.b.mono hzp)⟩
                case measure => simp [intOf]; omega
          · have HE := hJ (HTe.out (by omega))
            clear HTp HTe
            generalize (ns.take p).any (fun s => seq s y.name) = bo at *
            have HA3 := hJ (HA.out.below hBp HA.out.lt); have HR3 := hJ (HR.out.below hBp HR.out.lt); have HX3 := hJ (HX.out.below hBp HX.out.lt); have HO3 := hJ (HO.out.below hBp); have HB3 := hJ (hB.trans (hBp.mono hB.size)); have HRd3 := hJ (REnt.below HRd.out hBp); have c0 := e0; have c1 := kAC c1 _ hBp; have c2 := kAC c2 _ hBp; have c3 := kAC c3 _ hBp; have c4 := kAC c4 _ hBp; have c5 := kAC c5 _ hBp; clear HA HR HX HO e0 d1
            cases bo with
            | false =>
              have HN2 : Hid ((x.entries.take (k + 1)).filter (kE4 ns) = (x.entries.take k).filter (kE4 ns)) := hJ (by rw [HNx.out, if_neg (by rw [← HE.out]; decide), List.append_nil])
              go_wp2_with fail
              go_roundw
              case rel => exact ⟨k + 1, _, by omega, by go_num, hJ (by rw [HN2.out]; exact HO3.out), HA3, HR3, HX3, HB3.out, by omega⟩
              case measure => simp [intOf]; omega
            | true =>
              have HN2 : Hid ((x.entries.take (k + 1)).filter (kE4 ns) = (x.entries.take k).filter (kE4 ns) ++ [y]) := hJ (by rw [HNx.out, if_pos HE.out.symm])
              generalize (x.entries.take k).filter (kE4 ns) = out at *
              obtain ⟨va, vm, vc, rfl⟩ := HO3.out.shape
              have hob : ∀ q, (Value.slice va vm vc).ownBlock = some q → w3.heap.size ≤ q := fun q e => HO3.out.base_le q e
              have hml : out.length ≤ 1000 := by have := HLk.out; omega
              have z1 := HX3.out.cell 1 _ rfl
              have hl2 : w1.heap.size < wr.heap.size := HX3.out.lt
              have hl3 : w.heap.size < wr.heap.size := HA3.out.lt
              have hl4 : b < wr.heap.size := by omega
              have hws : w.heap.size ≤ w1.heap.size := by omega
              have hwb : w.heap.size ≤ w3.heap.size := by omega
              clear HLk HNx HE
              go_wp2_with fail
              go_region_law (first
               | (refine kCC kBI rfl (.tmp 67) (.tmp 73) rfl w3.heap.size _ out rfl (HO3.out.below (by go_grown)) wr.heap.size y [.string y.name, .slice ap y.scheme.params.length cp, .string y.scheme.result.elem, .string y.scheme.result.shape.row, .slice at_ y.scheme.result.shape.dims.length ct, .slice aq y.scheme.wh.length cq] rfl ?ry ?rc ?rl ?rm ?rb ?_
                  case ry => first | exact REnt.below (REnt.mono HRd3.out (fun q hq _ => ⟨hq, fun e => by have h1 := hob q e; have h2 := hq.2; omega⟩)) (by go_grown)
                  case rc => first | exact kA4 44 (by (simp only [kAG, kAE, Array.getElem?_push, Array.size_push]; simp))
                  case rl => first | omega
                  case rm => first | (unfold maxLen; omega)
                  case rb => first | (simp; omega)
                  intro v7 w7 hown7 hb7 hk7
                  have hB7 : Below w3.heap.size wr w7 := Below.trans (Below.mono (B := wr.heap.size) (by go_grown) (by omega)) hb7
                  obtain ⟨a7, m7, c7, rfl⟩ := hown7.shape
                  have HX7 := HX3.out.below hB7 (by omega)
                  have u1 := HX7.cell 1 _ rfl
                  have f1 := HX7.fz 1))
              all_goals go_wp2_with fail
              all_goals go_roundw
              all_goals first
               | exact ⟨k + 1, _, by omega, by go_num, hJ (by rw [HN2.out]; exact hown7.set _ (fun q hq => by have := hq.2; show q ≠ w1.heap.size; omega) (by show w1.heap.size < w3.heap.size; omega)), hJ ((HA3.out.below hB7 (by omega)).other (by show w1.heap.size ≠ w.heap.size; omega)), hJ ((HR3.out.below hB7 (by omega)).other (by show w1.heap.size ≠ w.heap.size + 1; omega)), hJ (HX7.set 1 _), (HB3.out.trans (hB7.mono (by omega))).setCell (by show w.heap.size ≤ w1.heap.size; omega) _, by simp; have := hB7.size; omega⟩
               | (simp [intOf]; omega)
       · obtain rfl : k = n := by omega
         have HF : Hid (NarS x ns ⟨x.module_, (x.entries.take k).filter (kE4 ns)⟩ 0) := hJ (by
          rw [List.take_of_length_le (by rw [HL.out]; exact Nat.le_refl _)]
          exact nars_ref HBv.out HAll.out)
         generalize (x.entries.take k).filter (kE4 ns) = m at *
         obtain ⟨va, vc, hve, hso⟩ := HO.out.sl; subst hve; have HSo := hJ hso; have z0 := HR.out.cell 0 _ rfl; have z1 := HR.out.cell 1 _ rfl; have f0 := HR.out.fz 0; have f1 := HR.out.fz 1; have hl0 := HR.out.lt; have e0 := HX.out.cell 0 _ rfl; have e1 := HX.out.cell 1 _ rfl; clear hso; obtain ⟨vm, hvm⟩ : ∃ vm, m.length = vm := ⟨_, rfl⟩; rw [hvm] at HSo HX e1; have HVm := hJ hvm; clear hvm; have HZz := hJ ((HR.out.set 0 (.string x.module_)).set 1 (.slice va vm vc)); have s0 := HZz.out.cell 0 _ rfl; have s1 := HZz.out.cell 1 _ rfl
         go_wp2_with fail
         refine bodyPost_ret (v := .tuple #[.agg #[.string x.module_, .slice va vm vc], .int .i64 0]) (by simp [results, results17, go_sem, s0, s1, hl0]) rfl ?_
         have hwr0 : w.heap.size + 1 < w3.heap.size := by omega
         have hfr : Sl REnt (fun q => S q ∨ w.heap.size ≤ q) ((wr.setCell ⟨w.heap.size + 1, 0, none⟩ (.string x.module_)).setCell ⟨w.heap.size + 1, 1, none⟩ (.slice va vm vc)) va vm vc m := (HSo.out.frame (fun q hq _ => by
          have hne : w.heap.size + 1 ≠ q := by
           rcases hq with hq | hq
           · have := hq.2; omega
           · omega
          exact (kAA hne).trans (kAA hne))).mono (fun q hq _ => by
           rcases hq with hq | hq
           · exact .inl hq.1
           · exact .inr (by omega))
         rw [← HVm.out] at hfr ⊢
         exact ⟨⟨⟨x.module_, m⟩, 0, va, vc, rfl, HF.out, hfr⟩, (hB.setCell (by show w.heap.size ≤ w.heap.size + 1; omega) _).setCell (by show w.heap.size ≤ w.heap.size + 1; omega) _⟩
open Go.RowKit Go.Shelf
attribute [local go_sem] Oper.semAt_some
theorem valuesS_in (F : Fence) (n : Nat) (h5 : F.fn 40) (hro : F.round = none) (a : Option Addr) (len cap : Nat) (w : World) :
 CallsIn F n Tryz.prog 40 #[.slice a len cap] w fun e w' => e = .returned (.func (.func 86) #[] #[.pointer (some ⟨w.heap.size, 0, none⟩)]) ∧ w' = w.alloc (.cells #[.slice a len cap] 51) := by
 refine callsIn_of_wp func40 rfl h5 ?_ hro
 simp only [ntmps40, List.size_toArray, List.length_cons, List.length_nil, Nat.reduceAdd, Nat.reduceSub, Array.replicate_succ, Array.replicate_zero, List.push_toArray, List.append_toArray, List.nil_append, List.cons_append]
 gi_wp2
 go_ret
 exact ⟨rfl, rfl⟩
theorem valuesS1_in (F : Fence) (n : Nat) (h7 : F.fn 86) (hro : F.round = none) (hn : 1 ≤ n) (l Bs n₀ b off len cap : Nat) (zs : List Str) (hlen : zs.length = len) (hl : len ≤ 100) (hb : b < n₀) (J Jx : List Str → World → Prop)
 (hY : ∀ pre x W, J pre W → pre.length < len → YieldAt F (n - 1) Tryz.prog l #[.string x] W fun e W' =>
   (e = .returned (.bool true) ∧ J (pre ++ [x]) W' ∧ Below n₀ W W') ∨ (e = .returned (.bool false) ∧ Jx (pre ++ [x]) W'))
 (W : World) (hBs : W.cell? ⟨Bs, 0, none⟩ = some (.slice (some ⟨b, off, none⟩) len cap)) (hc : ∀ j x, zs[j]? = some x → W.cell? ⟨b, off + j, none⟩ = some (.string x)) (h0 : J [] W) :
 CallsIn F n Tryz.prog 86 #[.func (.yield l) #[] #[], .pointer (some ⟨Bs, 0, none⟩)] W fun e W' => (∃ v, e = .returned v) ∧
  ((∃ ys, ys = (List.range len).map (fun j => zs.getD j default) ∧ J ys W') ∨ (∃ pre, (∃ k, k ≤ len ∧ pre = (List.range k).map (fun j => zs.getD j default)) ∧ Jx pre W')) := by
 have HC := hJ hc; have HLen := hJ hlen; have HY := hJ hY; clear hc hlen hY
 refine callsIn_of_wp func86 rfl h7 ?_ hro
 simp only [ntmps86, List.size_toArray, List.length_cons, List.length_nil, Nat.reduceAdd, Nat.reduceSub, Array.replicate_succ, Array.replicate_zero, List.push_toArray, List.append_toArray, List.nil_append, List.cons_append]
 gi_wp2
 gi_loopw [7] (fun i wr => ∃ k : Nat, k ≤ len ∧ i = .int .i64 k ∧ J ((List.range k).map (fun j => zs.getD j default)) wr ∧ Below n₀ W wr)
  (fun i _ => len - (intOf i).toNat)
 case atStart => exact ⟨0, Nat.zero_le _, rfl, h0, Below.refl _ _⟩
 case round =>
  obtain ⟨k, hk, rfl, hJs, hnx⟩ := hrel
  by_cases hlt : k < len
  · obtain ⟨x, hx⟩ : ∃ x, zs.getD k default = x := ⟨_, rfl⟩
    have hgx : zs[k]? = some x := by rw [← hx]; exact kCY (by rw [HLen.out]; exact hlt)
    have c0 : wr.cell? ⟨b, off + k, none⟩ = some (.string x) := (hnx.cell (p := ⟨b, off + k, none⟩) hb).trans (HC.out k x hgx)
    have HX := hJ hx
    obtain ⟨fn, tmps, assign, body, hy, hR⟩ := HY.out _ x _ hJs (by rw [upto_len]; exact hlt)
    clear hgx hx
    gi_wp2
    refine hR.mono ?_
    rintro e W3 (⟨rfl, hJ3, hk3⟩ | ⟨rfl, hJx3⟩)
    · gi_wp2
      go_roundw
      case rel => exact ⟨k + 1, by omega, by simp, by rw [upto_one, HX.out]; exact hJ3, hnx.trans hk3⟩
      case measure => simp [intOf]; omega
    · gi_wp2
      refine bodyPost_ret (results_none rfl _ _ _) rfl ?_
      exact ⟨⟨_, rfl⟩, .inr ⟨_, ⟨k + 1, by omega, by rw [upto_one, HX.out]⟩, hJx3⟩⟩
  · obtain rfl : k = len := by omega
    gi_wp2
    go_end0
    exact ⟨⟨_, rfl⟩, .inl ⟨_, rfl, hJs⟩⟩
theorem upto_takeS (zs : List Str) {k : Nat} (hk : k ≤ zs.length) : (List.range k).map (fun j => zs.getD j default) = zs.take k := by
 apply List.ext_getElem
 · simp [hk]
 · intro i h1 h2
   have : i < zs.length := by simp at h1; omega
   simp [this]
def HoldS (n₀ : Nat) (W : World) (sv : Value) (zs : List Str) : Prop :=
 (∃ a cap, sv = .slice a 0 cap ∧ zs = []) ∨ ∃ b off cap, sv = .slice (some ⟨b, off, none⟩) zs.length cap ∧ b < n₀ ∧ ∀ j x, zs[j]? = some x → W.cell? ⟨b, off + j, none⟩ = some (.string x)
theorem HoldS.below {n₀ : Nat} {A B : World} (h : Below n₀ A B) {sv : Value} {zs : List Str} : HoldS n₀ A sv zs → HoldS n₀ B sv zs
 | .inl e => .inl e
 | .inr ⟨b, off, cap, e, hb, hc⟩ => .inr ⟨b, off, cap, e, hb, fun j x hx => (h.cell (p := ⟨b, off + j, none⟩) hb).trans (hc j x hx)⟩
theorem Sl.holdS {S : Blk} {w : World} {a : Option Addr} {n c : Nat} {l : List Str} (h : Sl RStr S w a n c l) : HoldS w.heap.size w (.slice a n c) l := by
 have hl : l.length = n := h.len
 rcases Nat.eq_zero_or_pos n with h0 | h0
 · subst h0
   exact .inl ⟨a, c, rfl, List.eq_nil_of_length_eq_zero hl⟩
 · obtain ⟨b, off, rfl, hb, _⟩ := h.form 0 h0
   refine .inr ⟨b, off, c, by rw [hl], hb, fun j x hx => ?_⟩
   have hj : j < n := by rw [← hl]; rcases Nat.lt_or_ge j l.length with q | q; exact q; rw [List.getElem?_eq_none q] at hx; cases hx
   have := h.str j hj
   rw [List.getD_eq_getElem?_getD, hx] at this
   exact this
theorem valuesS1_nil_in (F : Fence) (n : Nat) (h7 : F.fn 86) (hro : F.round = none) (l Bs : Nat) (a : Option Addr) (cap : Nat) (J : List Str → World → Prop) (W : World) (hBs : W.cell? ⟨Bs, 0, none⟩ = some (.slice a 0 cap)) (h0 : J [] W) :
 CallsIn F n Tryz.prog 86 #[.func (.yield l) #[] #[], .pointer (some ⟨Bs, 0, none⟩)] W fun e W' => (∃ v, e = .returned v) ∧ J [] W' := by
 refine callsIn_of_wp func86 rfl h7 ?_ hro
 simp only [ntmps86, List.size_toArray, List.length_cons, List.length_nil, Nat.reduceAdd, Nat.reduceSub, Array.replicate_succ, Array.replicate_zero, List.push_toArray, List.append_toArray, List.nil_append, List.cons_append]
 gi_wp2
 gi_loopw [7] (fun i wr => i = .int .i64 0 ∧ J [] wr) (fun _ _ => 0)
 case atStart => exact ⟨rfl, h0⟩
 case round =>
  obtain ⟨rfl, hJs⟩ := hrel
  gi_wp2
  go_end0
  exact ⟨⟨_, rfl⟩, hJs⟩
theorem valuesS_stops (F : Fence) (n : Nat) (h7 : F.fn 86) (hro : F.round = none) (hn : 1 ≤ n) (Bs n₀ : Nat) (sv : Value) (zs : List Str) (hl : zs.length ≤ 100) (w : World) (hBs : Bs < w.heap.size) (hn₀ : n₀ ≤ w.heap.size)
 (hc : w.cell? ⟨Bs, 0, none⟩ = some sv) (hI : HoldS n₀ w sv zs) :
 SeqStopsK F n Tryz.prog 86 #[.pointer (some ⟨Bs, 0, none⟩)] (fun x : Str => #[Value.string x]) (Below n₀) (fun ys => ys = zs) (fun pre => pre <+: zs) zs.length w := fun l J Jx W hW hA _ hY h0 => by
 have hc' := (hW.cell (p := ⟨Bs, 0, none⟩) hBs).trans hc
 rcases hI.below (hW.mono hn₀) with ⟨a, cap, rfl, rfl⟩ | ⟨b, off, cap, rfl, hb, hcs⟩
 · exact (valuesS1_nil_in F n h7 hro l Bs a cap J W hc' h0).mono fun e W' ⟨he, hj⟩ => ⟨he, .inl ⟨_, rfl, hj⟩⟩
 · refine (valuesS1_in F n h7 hro hn l Bs n₀ b off zs.length cap zs rfl hl hb J Jx hY W hc' hcs h0).mono ?_
   rintro e W' ⟨he, ⟨ys, rfl, hj⟩ | ⟨pre, ⟨k, hk, rfl⟩, hj⟩⟩
   · exact ⟨he, .inl ⟨_, by rw [upto_takeS zs (Nat.le_refl _), List.take_length], hj⟩⟩
   · exact ⟨he, .inr ⟨_, by rw [upto_takeS zs hk]; exact List.take_prefix _ _, hj⟩⟩
theorem appendSeqS_in (F : Fence) (n : Nat) (h95 : F.fn 132) (hro : F.round = none) (hn : 2 ≤ n) (g : Nat) (lb : Array Value) (hFg : F.fn g) (eg : ∀ args w, (callFunc g args).run Tryz.prog w = .ok (.enter g args) w)
 (S Sp : List Str → Prop) (N : Nat) (hN : N ≤ 100) (w : World) (hseq : SeqStopsK F (n - 1) Tryz.prog g lb (fun x : Str => #[Value.string x]) (Below w.heap.size) S Sp N w) :
 CallsIn F n Tryz.prog 132 #[.slice none 0 0, .func (.func g) #[] lb] w fun e w' => ∃ (v : Value) (zs : List Str), e = .returned v ∧ S zs ∧ w'.ownsRow w.heap.size 9 1 v zs.length (zs.map Value.string) ∧ (v = .slice none 0 0 ↔ zs = []) ∧ Below w.heap.size w w' := by
 have h1 : 1 ≤ n := by omega
 refine callsIn_of_wp_marks func132 rfl h95 ?_ hro
 simp only [ntmps132, List.size_toArray, List.length_cons, List.length_nil, Nat.reduceAdd, Nat.reduceSub, Array.replicate_succ, Array.replicate_zero, List.push_toArray, List.append_toArray, List.nil_append, List.cons_append]
 gi_wp2
 have bS := Boxed.new w 51 (.slice none 0 0)
 have hB0 : Below w.heap.size w (w.alloc (.cells #[.slice none 0 0] 51)) := (Below.refl _ w).alloc (Nat.le_refl _) _
 have hsz : (w.alloc (.cells #[.slice none 0 0] 51)).heap.size = w.heap.size + 1 := by simp
 obtain ⟨W0, hW0⟩ : ∃ W0, w.alloc (.cells #[.slice none 0 0] 51) = W0 := ⟨_, rfl⟩
 rw [hW0] at bS hB0 hsz ⊢
 clear hW0
 refine wpIn_rangeFunc_ownH hro h1 (gf := g) (lb := lb) rfl hFg eg hseq belowK_t (belowK_b (by omega)) hB0 (fun _ => rfl)
  (fun pre W => (∃ v, Boxed W w.heap.size 51 v ∧ W.ownsRow w.heap.size 9 1 v pre.length (pre.map Value.string) ∧ (v = .slice none 0 0 ↔ pre = [])) ∧ Below w.heap.size w W)
  (fun _ _ _ => False)
  (OwnFrom.and (Own.from (holdsRow_own w.heap.size w.heap.size 51 9 1 (fun pre => pre.length) (fun pre => pre.map Value.string) (fun pre v => v = .slice none 0 0 ↔ pre = [])) _) (ownFrom_below (Nat.le_refl _) (by omega)))
  (fun _ _ _ _ _ hs _ _ => hs)
  ⟨⟨_, bS, World.ownsRow_nil _ _ _ _, by simp⟩, hB0⟩
  (fun x a' W => a' = { tmps := #[.slice none 0 0, .func (.func g) #[] lb, .pointer (some ⟨w.heap.size, 0, none⟩), undef, .slice none 0 0, .string x, .func (.func g) #[] lb, .string x, undef, undef, undef, undef, undef], defers := [] })
  ?hAx ?assign ?body ?done ?stop
 case hAx =>
  rintro x a' _ X Y row h3 hg hr
  exact h3
 case assign =>
  rintro l pre x W K ⟨⟨v, hv, hrow, hnil⟩, hB⟩ hK
  gi_wp2
  exact hK _ _ ((KeepsOthers.refl _).from _) (Below.refl _ W) ⟨⟨v, hv, hrow, hnil⟩, hB⟩ rfl
 case body =>
  rintro l pre x a' W hl ⟨r, hr⟩ ⟨⟨v, hv, hrow, hnil⟩, hB⟩ rfl hlt
  obtain ⟨i0, z0, hi, hz, hs, hb, hzs⟩ := kD3.parts; have hc := hv.cell
  have hnew : ∀ j u, [Value.string x][j]? = some u → (W.alloc (.cells #[.string x] 9)).cell? ((⟨W.heap.size, 0, none⟩ : Addr).add j) = some u := fun j u hu => by
   rw [kG2, Nat.zero_add]
   exact kA4 9 (World.alloc_heap_new W _) j u hu
  have hone : ∀ u ∈ [Value.string x], u.oneCell' = true := by
   intro u hu
   simp at hu
   subst hu; rfl
  gi_wp2_with (gi_at_builtin; refine wpListIn_append_own _ rfl _ _ 51 rfl w.heap.size 9 i0 z0 1 16 underlying51 hi hz hs hb hzs (by decide) _ _ _ rfl (hrow.alloc _) ⟨W.heap.size, 0, none⟩ 1 1 [Value.string x] rfl rfl hnew hone (by unfold maxLen; omega) (by omega) (by have := hB.size; simp; omega) ?_; intro v' w1 hown' hgrow _; obtain ⟨g', cap', rfl⟩ := ownsRow_succ hown'; obtain ⟨hv1, hv2, hr2, hk2, hb2⟩ := hv.appended (by decide) hrow hB.size (Nat.le_refl _) hown' hgrow; have hc1 := hv1.cell; have hf1 := hv1.frozen)
  exact ⟨hk2.from _, hb2, ⟨_, hv2, by simpa using hr2, by simp⟩, hB.trans hb2⟩
 case done =>
  rintro D ys W hD hS ⟨⟨v, hv, hrow, hnil⟩, hB⟩ hK
  have hc := hv.cell
  gi_wp2
  refine ⟨by simp, .inl ⟨_, _, rfl, run_takeDeferred hK, ?_⟩⟩
  exact ⟨_, results_tmp rfl _ _ _, v, ys, rfl, hS, ownsRow_putObj hrow _ hK rfl, hnil, hB.trans (belowK_b (w := w) (Nat.le_refl _) W D _ _ (by omega) hK rfl rfl)⟩
 case stop =>
  rintro D c pre W hD hS h
  exact h.elim
theorem collectS_in (F : Fence) (n : Nat) (h48 : F.fn 84) (h95 : F.fn 132) (hro : F.round = none) (hn : 3 ≤ n) (g : Nat) (lb : Array Value) (hFg : F.fn g) (eg : ∀ args w, (callFunc g args).run Tryz.prog w = .ok (.enter g args) w)
 (S Sp : List Str → Prop) (N : Nat) (hN : N ≤ 100) (w : World) (hseq : SeqStopsK F (n - 1 - 1) Tryz.prog g lb (fun x : Str => #[Value.string x]) (Below w.heap.size) S Sp N w) :
 CallsIn F n Tryz.prog 84 #[.func (.func g) #[] lb] w fun e w' => ∃ (v : Value) (zs : List Str), e = .returned v ∧ S zs ∧ w'.ownsRow w.heap.size 9 1 v zs.length (zs.map Value.string) ∧ (v = .slice none 0 0 ↔ zs = []) ∧ Below w.heap.size w w' := by
 have h1 : 1 ≤ n := by omega
 refine callsIn_of_wp func84 rfl h48 ?_ hro
 simp only [ntmps84, List.size_toArray, List.length_cons, List.length_nil, Nat.reduceAdd, Nat.reduceSub, Array.replicate_succ, Array.replicate_zero, List.push_toArray, List.append_toArray, List.nil_append, List.cons_append]
 gi_wp2_with (gi_at_call 132; refine (appendSeqS_in F (n - 1) h95 hro (by omega) g lb hFg eg S Sp N hN _ hseq).mono ?_; rintro e w' ⟨v, zs, rfl, hS, hrow, hnil, hb⟩; have HN' := hJ hnil; have HS' := hJ hS; clear hnil hS)
 go_ret
 exact ⟨v, zs, rfl, HS'.out, hrow, HN'.out, hb⟩
theorem collectS_Values (w : World) (sv : Value) (zs : List Str) (hl : zs.length ≤ 100) (Bs : Nat) (hBs : Bs < w.heap.size) (hc : w.cell? ⟨Bs, 0, none⟩ = some sv) (hI : HoldS w.heap.size w sv zs) :
 Calls Tryz.prog 84 #[.func (.func 86) #[] #[.pointer (some ⟨Bs, 0, none⟩)]] w fun e w' => ∃ v : Value, e = .returned v ∧ w'.ownsRow w.heap.size 9 1 v zs.length (zs.map Value.string) ∧ (v = .slice none 0 0 ↔ zs = []) ∧ Below w.heap.size w w' :=
 (callsIn_wide.1 (collectS_in Fence.wide 5 trivial trivial rfl (by decide) _ _ trivial (enters_of func86 (by kernel_rfl) rfl) _ _ _ hl w (valuesS_stops Fence.wide 3 trivial rfl (by decide) Bs w.heap.size sv zs hl w hBs (Nat.le_refl _) hc hI))).mono fun e w' ⟨v, ys, he, hS, hrow, hnil, hb⟩ => by
   subst hS
   exact ⟨v, he, hrow, hnil, hb⟩
theorem values_Str (a : Option Addr) (len cap : Nat) (w : World) : Calls Tryz.prog 40 #[.slice a len cap] w fun e w' => e = .returned (.func (.func 86) #[] #[.pointer (some ⟨w.heap.size, 0, none⟩)]) ∧ w' = w.alloc (.cells #[.slice a len cap] 51) :=
 callsIn_wide.1 (valuesS_in Fence.wide 1 trivial rfl a len cap w)
theorem compact_mem (zs : List (List UInt8)) (x : List UInt8) : x ∈ Lib.compact zs ↔ x ∈ zs := by
 unfold Lib.compact Lib.compactUpTo
 constructor
 · intro h
   obtain ⟨j, hj, rfl⟩ := List.mem_map.1 h; have hj := List.mem_range.1 (List.mem_filter.1 hj).1
   rw [getElem!_pos zs.toArray j (by simpa using hj)]
   simp
 · intro h
   obtain ⟨i, hi, rfl⟩ := List.getElem_of_mem h
   suffices H : ∀ i (hi : i < zs.length), ∃ j, j ∈ (List.range zs.length).filter (Lib.keeps zs.toArray) ∧ zs.toArray[j]! = zs[i] by
    obtain ⟨j, hj, e⟩ := H i hi
    exact List.mem_map.2 ⟨j, hj, e⟩
   intro i
   induction i with
   | zero => intro hi; exact ⟨0, List.mem_filter.2 ⟨List.mem_range.2 hi, by simp [Lib.keeps]⟩, by rw [getElem!_pos zs.toArray 0 (by simpa using hi)]; simp⟩
   | succ i ih =>
     intro hi
     by_cases hk : Lib.keeps zs.toArray (i + 1) = true
     · exact ⟨i + 1, List.mem_filter.2 ⟨List.mem_range.2 hi, hk⟩, by rw [getElem!_pos zs.toArray (i + 1) (by simpa using hi)]; simp⟩
     · obtain ⟨j, hj, e⟩ := ih (by omega)
       refine ⟨j, hj, ?_⟩
       unfold Lib.keeps at hk
       rw [decide_eq_true_eq] at hk
       have hk : zs.toArray[i + 1]! = zs.toArray[i + 1 - 1]! := by
        by_cases q : zs.toArray[i + 1]! = zs.toArray[i + 1 - 1]!
        · exact q
        · exact absurd (.inr q) hk
       rw [show i + 1 - 1 = i by omega, getElem!_pos zs.toArray (i + 1) (by simpa using hi), getElem!_pos zs.toArray i (by simp; omega)] at hk
       rw [e]
       simpa using hk.symm
theorem compact_asc {zs : List (List UInt8)} (h : zs.Pairwise (fun a b => a ≤ b)) : (Lib.compact zs).Pairwise (fun a b => a < b) := by
 unfold Lib.compact Lib.compactUpTo
 refine List.pairwise_map.2 ?_
 have hp : ((List.range zs.length).filter (Lib.keeps zs.toArray)).Pairwise (· < ·) := List.Pairwise.filter _ List.pairwise_lt_range
 refine hp.imp_of_mem (fun {i j} hi hj hij => ?_)
 obtain ⟨hj1, hk⟩ := List.mem_filter.1 hj; have hj1 := List.mem_range.1 hj1
 unfold Lib.keeps at hk
 rw [decide_eq_true_eq] at hk
 have hne : zs.toArray[j]! ≠ zs.toArray[j - 1]! := by
  rcases hk with q | q
  · omega
  · exact q
 rw [getElem!_pos zs.toArray j (by simpa using hj1), getElem!_pos zs.toArray (j - 1) (by simp; omega)] at hne
 rw [getElem!_pos zs.toArray j (by simpa using hj1), getElem!_pos zs.toArray i (by simp; omega)]
 simp only [List.getElem_toArray] at hne ⊢
 have h1 : zs[j - 1]'(by omega) ≤ zs[j] := List.pairwise_iff_getElem.1 h (j - 1) j (by omega) hj1 (by omega)
 have h2 : zs[i]'(by omega) ≤ zs[j - 1]'(by omega) := by
  rcases Nat.lt_or_ge i (j - 1) with q | q
  · exact List.pairwise_iff_getElem.1 h i (j - 1) (by omega) (by omega) q
  · have : i = j - 1 := by omega
    subst this; exact List.le_refl _
 have h3 : zs[j - 1]'(by omega) < zs[j] := by
  by_cases q : zs[j - 1]'(by omega) < zs[j]
  · exact q
  · exact absurd (List.le_antisymm (List.not_lt.1 q) h1) hne
 exact List.lt_of_le_of_lt h2 h3
def sortU (l : List Str) : List Str := (Lib.compact ((l.map (fun s => s.data.toList)).mergeSort leB)).map mkS
theorem sortU_asc (l : List Str) : (sortU l).Pairwise fun a b => slt a b = true := by
 have tr : ∀ a b c : List UInt8, leB a b = true → leB b c = true → leB a c = true := fun a b c h1 h2 => by simp only [leB, decide_eq_true_eq] at *; exact List.le_trans h1 h2
 have tot : ∀ a b : List UInt8, (leB a b || leB b a) = true := fun a b => by simp only [leB, Bool.or_eq_true, decide_eq_true_eq]; exact List.le_total a b
 have h1 := List.pairwise_mergeSort tr tot (l.map (fun s => s.data.toList))
 have h2 : ((l.map (fun s => s.data.toList)).mergeSort leB).Pairwise (fun a b => a ≤ b) := h1.imp fun {a b} h => by simpa only [leB, decide_eq_true_eq] using h
 unfold sortU
 exact List.pairwise_map.2 ((compact_asc h2).imp fun {a b} h => (slt_mkS a b).2 h)
theorem sortU_mem (l : List Str) (s : Str) : s ∈ sortU l ↔ s ∈ l := by
 unfold sortU
 rw [List.mem_map]
 constructor
 · rintro ⟨b, hb, rfl⟩
   have := (List.mergeSort_perm _ leB).mem_iff.1 ((compact_mem _ _).1 hb)
   obtain ⟨t, ht, rfl⟩ := List.mem_map.1 this
   rw [mkS_of]; exact ht
 · intro h
   exact ⟨s.data.toList, (compact_mem _ _).2 ((List.mergeSort_perm _ leB).mem_iff.2 (List.mem_map.2 ⟨s, h, rfl⟩)), mkS_of s⟩
theorem sortU_len (l : List Str) : (sortU l).length ≤ l.length := by
 unfold sortU
 rw [List.length_map]
 refine Nat.le_trans (Lib.compact_length_le _) ?_
 rw [List.length_mergeSort, List.length_map]
 exact Nat.le_refl _
theorem vals_enc (zs : List Str) : zs.map Value.string = (zs.map (fun s => s.data.toList)).map encStr := by rw [List.map_map]; rfl
theorem sorted_Str {w : World} {sv : Value} {zs : List Str} (hl : zs.length ≤ 100) {Bs : Nat} (hBs : Bs < w.heap.size) (hc : w.cell? ⟨Bs, 0, none⟩ = some sv) (hI : HoldS w.heap.size w sv zs) :
 Calls Tryz.prog 39 #[.func (.func 86) #[] #[.pointer (some ⟨Bs, 0, none⟩)]] w fun e w' => (∃ v, e = .returned v ∧ Own RStr 9 (fun _ => False) w' w.heap.size v (((zs.map (fun s => s.data.toList)).mergeSort leB).map mkS)) ∧ Below w.heap.size w w' := by
 have HC := hJ (collectS_Values w sv zs hl Bs hBs hc hI); have hE := vals_enc zs
 have hLl : (zs.map (fun s => s.data.toList)).length = zs.length := List.length_map _
 generalize hLs : zs.map (fun s => s.data.toList) = Ls at *
 clear hLs hI hc
 have hML : (Ls.mergeSort leB).length = Ls.length := List.length_mergeSort _
 go_enter func39, ntmps39
 go_wp2_with fail
 refine HC.out.mono ?_
 rintro e w1 ⟨v, rfl, hrow, -, hb⟩
 rw [hE, ← hLl] at hrow
 have hL100 : Ls.length ≤ 100 := by rw [hLl]; exact hl
 have HB := hJ hb; clear hb hE HC hLl
 obtain ⟨_, ⟨rfl, h0⟩ | ⟨g, cap, cur, rfl, hbase, hb, h1, h2, h3, h4⟩⟩ := hrow
 · have hLs : Ls = [] := List.eq_nil_of_length_eq_zero h0
   subst hLs; clear hML h0
   go_wp2_with fail
   refine (sort_none _).mono ?_
   rintro e w5 ⟨rfl, hb5⟩
   have HB5 := hJ (HB.out.trans (hb5.mono HB.out.size)); clear hb5
   go_wp2_with fail
   go_ret
   exact ⟨⟨_, rfl, by rw [List.mergeSort_nil]; exact Own.nil _ _ _ _ _⟩, HB5.out⟩
 · have hH : Go.Sort.Holds encStr w1 g 0 Ls.toArray := holds_of_block hb (by simpa using h4)
   have hgl : g < w1.heap.size := (Array.getElem?_eq_some_iff.1 hb).1
   have hcs := hJ (Tryz.slices_Sort_string g 0 cap Ls w1 hH hgl (by omega))
   have HMl := hJ hML; have HBk := hJ hb; clear hH h4 hML hb
   go_wp2_with fail
   refine hcs.out.mono ?_
   rintro e w5 ⟨rfl, nn, os, hW5⟩
   have hML := HMl.out; have hb := HBk.out; have HR5 := hJ (ownsRow_sorted (n := nn) (os := os) (cap := cap) (ts := Ls.mergeSort leB) (ss := Ls) hML hbase hb h1 h2 h3)
   have hg5 : w1.grownBy w5 (some g) := by rw [hW5]; exact grownBy_sorted _
   have HB5 : Hid (Below w.heap.size w w5) := hJ (HB.out.trans ⟨hg5.os, hg5.tape, hg5.output, hg5.size, fun k hk => hg5.block k (Nat.lt_of_lt_of_le hk HB.out.size) (fun e => by cases e; omega)⟩)
   have HW5 := hJ hW5; clear hW5 hg5 hML hb
   go_wp2_with fail
   go_ret
   exact ⟨⟨_, rfl, Own.ofRow (by
    have := HR5.out
    rw [map_enc, List.length_map, HMl.out, HW5.out]; exact this)⟩, HB5.out⟩
theorem compact_Str {S : Blk} {w : World} {base : Nat} {v : Value} {ms : List (List UInt8)} (h : Own RStr 9 S w base v (ms.map mkS)) (hbw : base ≤ w.heap.size) (hn : ms.length ≤ 1000) :
 Calls Tryz.prog 38 #[v] w fun e w' => (∃ v', e = .returned v' ∧ Own RStr 9 S w' base v' ((Lib.compact ms).map mkS)) ∧ Below base w w' := by
 have hrow := h.toRow; rw [List.length_map, map_enc] at hrow
 obtain ⟨_, ⟨rfl, h0⟩ | ⟨g, cap, cur, rfl, hbase, hb, h1, h2, h3, h4⟩⟩ := hrow
 · have hLs : ms = [] := List.eq_nil_of_length_eq_zero h0
   subst hLs
   refine (Tryz.slices_Compact_string_empty none 0 w).mono ?_
   rintro e w' ⟨rfl, rfl⟩
   exact ⟨⟨_, rfl, Own.nil _ _ _ _ _⟩, Below.refl _ _⟩
 · have hH : Go.Sort.Holds encStr w g 0 ms.toArray := holds_of_block hb (by simpa using h4)
   refine (Tryz.slices_Compact_string g 0 cap ms w hH (by omega) h1).mono ?_
   rintro e w' ⟨rfl, q, rfl⟩
   have hle := Lib.compact_length_le ms
   have hg5 : w.grownBy (Go.Sort.grow (Go.Sort.putRow encStr (Go.Sort.ahead w q) g 0 (Lib.compact ms ++ List.replicate (ms.length - (Lib.compact ms).length) []).toArray) #[]) (some g) := grownBy_sorted _
   have hh := heap_sorted (n := q) (os := #[]) (Lib.compact ms ++ List.replicate (ms.length - (Lib.compact ms).length) []).toArray hb; rw [Go.Sort.grow_empty] at hg5 hh
   refine ⟨⟨_, rfl, Own.ofRow ?_⟩, ⟨hg5.os, hg5.tape, hg5.output, hg5.size, fun k hk => hg5.block k (by omega) (fun e => by cases e; omega)⟩⟩
   rw [List.length_map, map_enc]
   have ht := take_putCells cur (Lib.compact ms ++ List.replicate (ms.length - (Lib.compact ms).length) []) (by simp; omega)
   refine ⟨by simp, .inr ⟨g, cap, _, rfl, hbase, hh, by omega, h2, by simp [Go.Sort.putCells, h3], ?_⟩⟩
   rw [Nat.mul_one]
   have := congrArg (List.take (Lib.compact ms).length) ht
   rw [List.take_take, Nat.min_eq_left (by simp), List.map_append, List.take_left' (by simp)] at this
   exact this
theorem signature_Narrow {S T : Blk} {x : Ifc} {a : Option Addr} {c : Nat} {ns : List Str} {a2 : Option Addr} {n2 c2 : Nat} {w : World} (hs : Sl REnt S w a x.entries.length c x.entries) (hns : Sl RStr T w a2 n2 c2 ns) (hn2 : n2 ≤ 100) (hz : ∀ e ∈ x.entries, szS e.scheme ∧ e.name.size ≤ 281474976710656) (hmz : x.module_.size ≤ 281474976710656) (E : Env w) :
 Calls Tryz.prog 16 #[.agg #[.string x.module_, .slice a x.entries.length c], .slice a2 n2 c2] w fun e w' => (∃ (A : Ifc) (ev : Int) (a' : Option Addr) (c' : Nat), e = .returned (.tuple #[.agg #[.string A.module_, .slice a' A.entries.length c'], .int .i64 ev]) ∧ NarS x ns A ev ∧ Sl REnt (fun k => S k ∨ w.heap.size ≤ k) w' a' A.entries.length c' A.entries) ∧ Below w.heap.size w w' := by
 have hm := hs.small
 have HV := hJ (fun (W : World) (hW : Below w.heap.size w W) => kB9 (hs.below hW) hz hmz (E.below hW))
 have HP := hJ (fun (q : kAS x = true) (W : World) (hW : Below w.heap.size w W) (s : Str) => kE9 (hs.below hW) (Nat.le_trans (valid_len q) (by decide)) s (kE5 q))
 have H := hJ (hs.mono (S' := fun k => S k ∧ k < w.heap.size) (fun k hk h => ⟨hk, h⟩))
 have HNs := hJ hns; have HLn := hJ hns.len
 have HLu : Hid ((sortU ns).length ≤ 100) := hJ (by have := sortU_len ns; rw [hns.len] at this; omega)
 clear hs hz E hns; obtain ⟨bv, hbv⟩ : ∃ bv, kAS x = bv := ⟨_, rfl⟩; rw [hbv] at HV; have HBv := hJ hbv; clear hbv; obtain ⟨n, hl1⟩ : ∃ n, x.entries.length = n := ⟨_, rfl⟩; rw [hl1] at HV HP H hm; rw [hl1]; have HL := hJ hl1; clear hl1; obtain ⟨B0, ya, yb, hW0⟩ := box2 w 29 [.string x.module_, .slice a n c] 29 [.string ⟨#[]⟩, .slice none 0 0]; have xa0 := box0 ya 0 _ rfl; have xa1 := box0 ya 1 _ rfl; have xb0 := box0 yb 0 _ rfl; have xb1 := box0 yb 1 _ rfl
 have bka : Bx _ _ _ _ := ya; have bkb : Bx _ _ _ _ := yb
 clear ya yb; have HA0 := hJ bka; have HR0 := hJ bkb; clear bka bkb xb0 xb1
 go_enter func16, ntmps16
 go_wp2_with fail
 refine (HV.out _ B0.out).mono ?_
 rintro e w1 ⟨rfl, hb1⟩
 have HB1 := hJ (B0.out.trans (hb1.mono B0.out.size)); have HA1 := hJ (HA0.out.below hb1 HA0.out.lt); have HR1 := hJ (HR0.out.below hb1 HR0.out.lt)
 have hz1 : w.heap.size + 2 ≤ w1.heap.size := by have := hb1.size; omega
 clear hb1 HA0 HR0 xa0 xa1 B0 hW0
 cases bv with
 | false =>
   have HF : Hid (NarS x ns kCL 1) := hJ (nars_bad HBv.out)
   have HB2 := HB1; have HR2 := HR1; have z0 := HR2.out.cell 0 _ rfl; have z1 := HR2.out.cell 1 _ rfl; have f0 := HR2.out.fz 0; have f1 := HR2.out.fz 1; have hl0 := HR2.out.lt; have HZz := hJ ((HR2.out.set 0 (.string ⟨#[]⟩)).set 1 (.slice none 0 0)); have s0 := HZz.out.cell 0 _ rfl; have s1 := HZz.out.cell 1 _ rfl
   go_wp2_with fail
   refine bodyPost_ret (v := .tuple #[.agg #[.string ⟨#[]⟩, .slice none 0 0], .int .i64 1]) (by simp [results, results16, go_sem, s0, s1, hl0]) rfl ?_
   exact ⟨⟨kCL, 1, none, 0, rfl, HF.out, Sl.empty _ _ _⟩, (HB2.out.setCell (by show w.heap.size ≤ w.heap.size + 1; omega) _).setCell (by show w.heap.size ≤ w.heap.size + 1; omega) _⟩
 | true =>
   obtain ⟨W2, hW2⟩ : ∃ W2, w1.alloc (.cells #[.string x.module_, .slice none 0 0] 29) = W2 := ⟨_, rfl⟩
   have hbA : Below w1.heap.size w1 W2 := by rw [← hW2]; exact (Below.refl _ _).alloc (Nat.le_refl _) _
   have hz2 : W2.heap.size = w1.heap.size + 1 := by rw [← hW2]; simp
   have hx2 : Bx W2 w1.heap.size 29 [.string x.module_, .slice none 0 0] := by rw [← hW2]; exact Bx.fresh _ _ _
   obtain ⟨W3, hW3⟩ : ∃ W3, W2.alloc (.cells #[.slice a2 n2 c2] 51) = W3 := ⟨_, rfl⟩
   have hbB : Below W2.heap.size W2 W3 := by rw [← hW3]; exact (Below.refl _ _).alloc (Nat.le_refl _) _
   have hz3 : W3.heap.size = w1.heap.size + 2 := by rw [← hW3]; simp [hz2]
   have hc3 : W3.cell? ⟨W2.heap.size, 0, none⟩ = some (.slice a2 n2 c2) := by rw [← hW3]; exact (Bx.fresh W2 51 [.slice a2 n2 c2]).cell 0 _ rfl
   have hb13 : Below w1.heap.size w1 W3 := hbA.trans (hbB.mono (by omega))
   have hB3 : Below w.heap.size w W3 := HB1.out.trans (hb13.mono HB1.out.size)
   have HX3 := hJ (hx2.below hbB (by omega))
   have HA3 := hJ (HA1.out.below hb13 HA1.out.lt); have HR3 := hJ (HR1.out.below hb13 HR1.out.lt); have HVa := hJ (values_Str a2 n2 c2 W2)
   have HSr := hJ (sorted_Str (w := W3) (sv := .slice a2 n2 c2) (zs := ns) (by rw [HLn.out]; exact hn2) (Bs := W2.heap.size) (by omega) hc3 ((HNs.out.below hB3).holdS))
   have HB3 := hJ hB3; have HZ3 := hJ hz3; have d0 := HA1.out.cell 0 _ rfl; have d1 := HA1.out.cell 1 _ rfl; clear hbA hx2 hbB hz3 hc3 hb13 hB3 hz2; subst hW3; subst hW2
   go_wp2_with fail
   refine HVa.out.mono ?_
   rintro e _ ⟨rfl, rfl⟩
   clear HVa
   generalize (w1.alloc (.cells #[.string x.module_, .slice none 0 0] 29)) = W2 at *
   generalize (W2.alloc (.cells #[.slice a2 n2 c2] 51)) = W3 at *
   go_wp2_with fail
   refine HSr.out.mono ?_
   rintro e w4 ⟨⟨v4, rfl, hown4⟩, hb4⟩
   clear HSr d0 d1; have hz34 := hb4.size
   have HCm := compact_Str hown4 hz34 (by rw [List.length_mergeSort, List.length_map, HLn.out]; omega)
   obtain ⟨cs, hcs⟩ : ∃ cs, (Lib.compact ((ns.map (fun s => s.data.toList)).mergeSort leB)).map mkS = cs := ⟨_, rfl⟩
   rw [hcs] at HCm
   have HCs : Hid (sortU ns = cs) := hJ hcs
   have HCm := hJ HCm; have HX4 := hJ (HX3.out.below hb4 HX3.out.lt); have HA4 := hJ (HA3.out.below hb4 HA3.out.lt); have HR4 := hJ (HR3.out.below hb4 HR3.out.lt); have HB4 := hJ (HB3.out.trans (hb4.mono HB3.out.size)); clear hown4 hb4 hcs HX3 HA3 HR3 HA1 HR1
   go_wp2_with fail
   refine HCm.out.mono ?_
   rintro e w5 ⟨⟨v5, rfl, hown5⟩, hb5⟩
   obtain ⟨a5, c5, rfl, hs5, hat5⟩ := hown5.self; have hz5 := hb5.size; have hz3 := HZ3.out
   have hlo : w1.heap.size < W3.heap.size := by omega
   have HX5 := hJ (HX4.out.below hb5 hlo)
   have HA5 := hJ (HA4.out.below hb5 (by omega))
   have HR5 := hJ (HR4.out.below hb5 (by omega))
   have HB5 := hJ (HB4.out.trans (hb5.mono HB3.out.size)); obtain ⟨M, hM⟩ : ∃ M, cs.length = M := ⟨_, rfl⟩; rw [hM] at hs5; rw [hM]; have HMl := hJ hM; have HS5 := hJ hs5
   have HAt : Hid (∀ q, At a5 q → w1.heap.size < q ∧ q < w5.heap.size) := hJ (fun q hq => by have := hat5 q hq; omega)
   have hM100 : M ≤ 100 := by have := HLu.out; rw [HCs.out] at this; omega
   have hgs : w1.heap.size < w5.heap.size := by omega
   clear hown5 hb5 hs5 hat5 hM HCm HX4 HA4 HR4 HB4 hz34 hz5 hz3 hlo HZ3 HLu
   go_wp2_with fail
   go_loopw [22] (fun i wr => ∃ (j : Nat) (m : List Ent) (vO : Value), j ≤ M ∧ i = .int .i64 j ∧ Hid (m.map Ent.name = cs.take j) ∧ Hid (∀ y ∈ m, y ∈ x.entries) ∧ Hid (Own REnt 43 (fun k => S k ∧ k < w.heap.size) wr w5.heap.size vO m) ∧ Hid (Bx wr w.heap.size 29 [.string x.module_, .slice a n c]) ∧ Hid (Bx wr (w.heap.size + 1) 29 [.string ⟨#[]⟩, .slice none 0 0]) ∧ Hid (Bx wr w1.heap.size 29 [.string x.module_, vO]) ∧ Hid (Sl RStr (At a5) wr a5 M c5 cs) ∧ Below w.heap.size w wr ∧ w5.heap.size ≤ wr.heap.size) (fun i _ => M - (intOf i).toNat)
   case atStart => exact ⟨0, [], _, Nat.zero_le _, rfl, hJ rfl, hJ (fun y hy => by simp at hy), hJ (Own.nil _ _ _ _ _), HA5, HR5, HX5, HS5, HB5.out, Nat.le_refl _⟩
   case round =>
    clear HA5 HR5 HX5 HS5 HB5 HB1 HB3; obtain ⟨j, m, vO, hj, rfl, HMn, HIn, HO, HA, HR, HX, HS, hB, hsz⟩ := hrel
    by_cases hlt : j < M
    · obtain ⟨g5, o5, rfl, hg5W, _⟩ := HS.out.form j hlt
      have cN := HS.out.str j hlt
      have hjl : j < cs.length := by rw [HMl.out]; exact hlt
      have HTk : Hid (cs.take (j + 1) = cs.take j ++ [cs.getD j default]) := hJ (kAU hjl)
      have HSm : Hid (cs.getD j default ∈ ns) := hJ ((sortU_mem ns _).1 (by rw [HCs.out]; exact kAI hjl))
      have HPl := hJ (HP.out HBv.out wr hB (cs.getD j default))
      have HNo : Hid (∀ r, At1 x.entries (cs.getD j default) r → (∃ k : Nat, r = k ∧ k < n ∧ (x.entries.getD k default).name = cs.getD j default) ∨ (r = -1 ∧ NarS x ns kCL 7)) := hJ (fun r h => by
       rcases h with ⟨k, h1, h2, h3⟩ | ⟨h1, h2⟩
       · exact .inl ⟨k, h1, by rw [← HL.out]; exact h2, h3⟩
       · exact .inr ⟨h1, nars_none HBv.out HSm.out h2⟩)
      clear hjl
      generalize cs.getD j default = s at *
      have d0 := HA.out.cell 0 _ rfl; have d1 := HA.out.cell 1 _ rfl
      go_wp2_with fail
      refine HPl.out.mono ?_
      rintro e w6 ⟨⟨r, rfl, hat⟩, hb6⟩
      have hcase := HNo.out r hat; have HB6 := hJ (hB.trans (hb6.mono hB.size)); have HA6 := hJ (HA.out.below hb6 HA.out.lt); have HR6 := hJ (HR.out.below hb6 HR.out.lt); have HX6 := hJ (HX.out.below hb6 HX.out.lt); have HS6 := hJ (HS.out.below hb6); have HO6 := hJ (HO.out.below hb6); have hz6 := hb6.size; clear hb6 hat HNo HPl HA HR HX HS HO d0 d1 cN
      rcases hcase with ⟨k, rfl, hlt2, he⟩ | ⟨rfl, hno⟩
      · have hk0 : ¬((k : Int) < 0) := by omega
        obtain ⟨b, off, rfl, hbW, _⟩ := H.out.form k hlt2
        have hkl : k < x.entries.length := by rw [HL.out]; exact hlt2
        have HMem : Hid (x.entries.getD k default ∈ x.entries) := hJ (kAI hkl)
        obtain ⟨_, _, _, hr, ⟨⟨ap, cp, rfl, _⟩, ⟨at_, ct, rfl, _⟩, ⟨aq, cq, rfl, _⟩⟩, c0, c1, c2, c3, c4, c5'⟩ := (H.out.below HB6.out).ent k hlt2; have HRd := hJ hr
        have HNm : Hid ((m ++ [x.entries.getD k default]).map Ent.name = cs.take (j + 1)) := hJ (by rw [List.map_append, HMn.out, HTk.out]; show _ ++ [(x.entries.getD k default).name] = _; rw [he])
        have HIn2 : Hid (∀ y ∈ m ++ [x.entries.getD k default], y ∈ x.entries) := hJ (fun y hy => by
         rcases List.mem_append.1 hy with q | q
         · exact HIn.out y q
         · rw [List.mem_singleton.1 q]; exact HMem.out)
        clear hr he hkl HTk HMn HSm
        generalize x.entries.getD k default = y at *
        obtain ⟨va, vm, vc, rfl⟩ := HO6.out.shape
        have hob : ∀ q, (Value.slice va vm vc).ownBlock = some q → w5.heap.size ≤ q := fun q e => HO6.out.base_le q e
        have hml : m.length ≤ 1000 := by
         have h1 := congrArg List.length HNm.out
         simp at h1
         omega
        have y1 := HA6.out.cell 1 _ rfl; have z1 := HX6.out.cell 1 _ rfl
        have hl2 : w1.heap.size < w6.heap.size := HX6.out.lt
        have hl3 : w.heap.size < w6.heap.size := HA6.out.lt
        have hws : w.heap.size ≤ w1.heap.size := by omega
        go_wp2_with fail
        go_region_law (first
         | (refine kCC elemEnt rfl (.tmp 33) (.tmp 39) rfl w5.heap.size _ m rfl (HO6.out.below (by go_grown)) w6.heap.size y [.string y.name, .slice ap y.scheme.params.length cp, .string y.scheme.result.elem, .string y.scheme.result.shape.row, .slice at_ y.scheme.result.shape.dims.length ct, .slice aq y.scheme.wh.length cq] rfl ?ry ?rc ?rl ?rm ?rb ?_
            case ry => first | exact REnt.below (REnt.mono HRd.out (fun q hq _ => ⟨hq, fun e => by have h1 := hob q e; have h2 := hq.2; omega⟩)) (by go_grown)
            case rc => first | exact kA4 43 (by (simp only [kAG, kAE, Array.getElem?_push, Array.size_push]; simp))
            case rl => first | omega
            case rm => first | (unfold maxLen; omega)
            case rb => first | (simp; omega)
            intro v7 w7 hown7 hb7 hk7
            have hB7 : Below w5.heap.size w6 w7 := Below.trans (Below.mono (B := w6.heap.size) (by go_grown) (by omega)) hb7
            obtain ⟨a7, m7, c7, rfl⟩ := hown7.shape; have HX7 := HX6.out.below hB7 hgs; have u1 := HX7.cell 1 _ rfl
            have f1 := HX7.fz 1))
        all_goals go_wp2_with fail
        all_goals go_roundw
        all_goals first
         | exact ⟨j + 1, m ++ [y], _, by omega, by go_num, HNm, HIn2, hJ (hown7.set _ (fun q hq => by have := hq.2; show q ≠ w1.heap.size; omega) (by show w1.heap.size < w5.heap.size; omega)), hJ ((HA6.out.below hB7 (by omega)).other (by show w1.heap.size ≠ w.heap.size; omega)), hJ ((HR6.out.below hB7 (by omega)).other (by show w1.heap.size ≠ w.heap.size + 1; omega)), hJ (HX7.set 1 _), hJ ((HS6.out.frame (fun q hq _ => hB7.block q (HAt.out q hq).2)).frame (fun q hq _ => kAA (by show w1.heap.size ≠ q; have := (HAt.out q hq).1; omega))), (HB6.out.trans (hB7.mono (by omega))).setCell (by show w.heap.size ≤ w1.heap.size; omega) _, by simp; have := hB7.size; omega⟩
         | (simp [intOf]; omega)
      · have HF := hJ hno
        have HB2 := HB6; have HR2 := HR6; clear hno HTk HMn HIn HO6; have z0 := HR2.out.cell 0 _ rfl; have z1 := HR2.out.cell 1 _ rfl; have f0 := HR2.out.fz 0; have f1 := HR2.out.fz 1; have hl0 := HR2.out.lt; have HZz := hJ ((HR2.out.set 0 (.string ⟨#[]⟩)).set 1 (.slice none 0 0)); have s0 := HZz.out.cell 0 _ rfl; have s1 := HZz.out.cell 1 _ rfl
        go_wp2_with fail
        refine bodyPost_ret (v := .tuple #[.agg #[.string ⟨#[]⟩, .slice none 0 0], .int .i64 7]) (by simp [results, results16, go_sem, s0, s1, hl0]) rfl ?_
        exact ⟨⟨kCL, 7, none, 0, rfl, HF.out, Sl.empty _ _ _⟩, (HB2.out.setCell (by show w.heap.size ≤ w.heap.size + 1; omega) _).setCell (by show w.heap.size ≤ w.heap.size + 1; omega) _⟩
    · obtain rfl : j = M := by omega
      have HF : Hid (NarS x ns ⟨x.module_, m⟩ 0) := hJ (nars_sig HBv.out (sortU_asc ns) (sortU_mem ns) (by rw [HMn.out, HCs.out, ← HMl.out, List.take_length]) HIn.out)
      obtain ⟨va, vc, hve, hso⟩ := HO.out.sl; subst hve; have HSo := hJ hso; have z0 := HR.out.cell 0 _ rfl; have z1 := HR.out.cell 1 _ rfl; have f0 := HR.out.fz 0; have f1 := HR.out.fz 1; have hl0 := HR.out.lt; have d0 := HX.out.cell 0 _ rfl; have d1 := HX.out.cell 1 _ rfl; clear hso; obtain ⟨vm, hvm⟩ : ∃ vm, m.length = vm := ⟨_, rfl⟩; rw [hvm] at HSo HX d1; have HVm := hJ hvm; clear hvm; have HZz := hJ ((HR.out.set 0 (.string x.module_)).set 1 (.slice va vm vc)); have s0 := HZz.out.cell 0 _ rfl; have s1 := HZz.out.cell 1 _ rfl
      go_wp2_with fail
      refine bodyPost_ret (v := .tuple #[.agg #[.string x.module_, .slice va vm vc], .int .i64 0]) (by simp [results, results16, go_sem, s0, s1, hl0]) rfl ?_
      have hfr : Sl REnt (fun q => S q ∨ w.heap.size ≤ q) ((wr.setCell ⟨w.heap.size + 1, 0, none⟩ (.string x.module_)).setCell ⟨w.heap.size + 1, 1, none⟩ (.slice va vm vc)) va vm vc m := (HSo.out.frame (fun q hq _ => by
       have hne : w.heap.size + 1 ≠ q := by
        rcases hq with hq | hq
        · have := hq.2; omega
        · omega
       exact (kAA hne).trans (kAA hne))).mono (fun q hq _ => by
        rcases hq with hq | hq
        · exact .inl hq.1
        · exact .inr (by omega))
      rw [← HVm.out] at hfr ⊢
      exact ⟨⟨⟨x.module_, m⟩, 0, va, vc, rfl, HF.out, hfr⟩, (hB.setCell (by show w.heap.size ≤ w.heap.size + 1; omega) _).setCell (by show w.heap.size ≤ w.heap.size + 1; omega) _⟩
def fewN (l : List Str) : Bool := !l.any (fun s => !decide (s.size ≤ 40)) && decide (l.length ≤ 8)
theorem few_names {l : List Str} (h : fewN l = true) : l.length ≤ 8 ∧ ∀ s ∈ l, s.size ≤ 40 := by
 unfold fewN at h
 rw [Bool.and_eq_true, Bool.not_eq_true'] at h
 refine ⟨of_decide_eq_true h.2, fun s hs => ?_⟩
 have := (List.any_eq_false.1 h.1) s hs
 simpa using this
theorem law57_few {S : Blk} {l : List Str} {a : Option Addr} {n c : Nat} {w : World} (hs : Sl RStr S w a n c l) (hb : ∀ s ∈ l, strB s) :
 Calls Tryz.prog 14 #[.slice a n c] w fun e w' => e = .returned (.bool (fewN l)) ∧ w = w' := by
 have hm := hs.small; have HL := hJ hs.len; have HBs := hJ hb; have HS := hJ hs; clear hs hb
 go_enter func14, ntmps14
 go_wp2_with fail
 go_loopw [3] (fun i wr => ∃ k : Nat, k ≤ n ∧ i = .int .i64 k ∧ Hid (∀ j, j < k → decide ((l.getD j default).size ≤ 40) = true) ∧ w = wr) (fun i _ => n - (intOf i).toNat)
 case atStart => exact ⟨0, Nat.zero_le _, rfl, fun j hj => absurd hj (by omega), rfl⟩
 case round =>
  obtain ⟨k, hk, rfl, HT, rfl⟩ := hrel
  by_cases hlt : k < n
  · obtain ⟨b, off, rfl, hbW, _⟩ := HS.out.form k hlt
    have HK : Hid (k < l.length) := hJ (by rw [HL.out]; exact hlt)
    have c0 := HS.out.str k hlt
    have hnz : (l.getD k default).size ≤ 281474976710656 := HBs.out _ (kAI HK.out)
    have HBad : Hid (decide ((l.getD k default).size ≤ 40) = false → fewN l = false) := hJ (fun q => by unfold fewN; rw [kFI HK.out (p := fun s : Str => decide (s.size ≤ 40)) q]; rfl)
    have HGo := hJ (fun q => upto HT.out (p := fun j => decide ((l.getD j default).size ≤ 40) = true) q)
    generalize l.getD k default = y at *
    by_cases h40 : y.size ≤ 40
    · have HGo := hJ (HGo.out (decide_eq_true h40))
      have q : decide (40 < (y.size : Int)) = false := decide_eq_false (by omega)
      go_wp2_with fail
      go_roundw
      case rel => exact ⟨k + 1, by omega, by go_num, HGo, trivial⟩
      case measure => simp [intOf]; omega
    · have HF := hJ (HBad.out (decide_eq_false h40))
      have q : decide (40 < (y.size : Int)) = true := decide_eq_true (by omega)
      clear HBad HGo
      go_wp2_with fail
      go_ret
      exact ⟨by rw [HF.out]; rfl, rfl⟩
  · have HN : Hid (fewN l = decide (n ≤ 8)) := hJ (by unfold fewN; rw [kD0 (p := fun s : Str => decide (s.size ≤ 40)) (fun j hj => HT.out j (by rw [HL.out] at hj; omega)), HL.out]; rfl)
    by_cases h8 : n ≤ 8
    · have q : decide ((n : Int) ≤ 8) = true := decide_eq_true (by omega)
      have HN := hJ (show fewN l = true by rw [HN.out, decide_eq_true h8])
      go_wp2_with fail
      go_ret
      exact ⟨by rw [HN.out]; rfl, rfl⟩
    · have q : decide ((n : Int) ≤ 8) = false := decide_eq_false (by omega)
      have HN := hJ (show fewN l = false by rw [HN.out, decide_eq_false h8])
      go_wp2_with fail
      go_ret
      exact ⟨by rw [HN.out]; rfl, rfl⟩
theorem theirs_any {S : Blk} {A : Ifc} {a : Option Addr} {c : Nat} {w : World} (hs : Sl REnt S w a A.entries.length c A.entries) (hn : A.entries.length ≤ 100) :
 Calls Tryz.prog 12 #[.agg #[.string A.module_, .slice a A.entries.length c]] w fun e w' => (∃ a' c', e = .returned (.agg #[.string A.module_, .slice a' A.entries.length c']) ∧ Sl REnt All w' a' A.entries.length c' A.entries) ∧ Below w.heap.size w w' :=
 (theirsIfc hs (by omega)).mono fun e w' ⟨⟨v, he, ho⟩, hb⟩ => by
   obtain ⟨a', c', rfl, hs'⟩ := ho.sl
   exact ⟨⟨a', c', he, hs'.all⟩, hb⟩
theorem law57_Make {x : Ifc} {ns : List Str} {a a2 : Option Addr} {n c n2 c2 : Nat} {w : World} (hs0 : Sl REnt All w a n c x.entries) (hns0 : Sl RStr All w a2 n2 c2 ns) (hbig : ∀ e ∈ x.entries, bigE e) (hmz : strB x.module_) (hwz : ∀ e ∈ x.entries, ∀ y ∈ e.scheme.wh, szL y) (hnb : ∀ s ∈ ns, strB s) (E : Env w) :
 Calls Tryz.prog 4 #[.agg #[.string x.module_, .slice a n c], .slice a2 n2 c2] w fun e w' => e = .returned (.bool true) ∧ Below w.heap.size w w' := by
 have hm := hs0.small; have hm2 := hns0.small; have HL := hJ hs0.len; have HL2 := hJ hns0.len
 have HS := hJ (hs0.mono (S' := fun k => k < w.heap.size) (fun k _ h => h))
 have HNs := hJ (hns0.mono (S' := fun k => k < w.heap.size) (fun k _ h => h))
 have HE := hJ (fun (W : World) (hW : Below w.heap.size w W) => E.below hW)
 have HBg := hJ hbig; have HMz := hJ hmz; have HWz := hJ hwz; have HNb := hJ hnb; clear hs0 hns0 hbig hmz hwz hnb E; obtain ⟨B0, ya, hW0⟩ := box1 w 24 [.string x.module_, .slice a n c]; have xa0 := box0 ya 0 _ rfl; have xa1 := box0 ya 1 _ rfl
 have bka : Bx _ _ _ _ := ya
 clear ya; have HX0 := hJ bka; have HAw := hJ (law57_awake _ (HE.out _ B0.out)); clear bka
 go_enter func4, ntmps4
 go_wp2_with fail
 refine (HAw.out).mono ?_
 rintro e w1 ⟨rfl, hb1⟩
 have HX1 := hJ (HX0.out.below hb1 HX0.out.lt)
 have HW1 : Hid (Below w.heap.size w w1) := hJ (B0.out.trans (hb1.mono B0.out.size))
 clear xa0 xa1 hb1 HX0 HAw B0 hW0; have g0 := HX1.out.cell 0 _ rfl; have g1 := HX1.out.cell 1 _ rfl; have HF := hJ (ref57_Few (i := x) (HS.out.below HW1.out) HBg.out HMz.out)
 cases hfew : fewIfc x with
 | false =>
   rw [hfew] at HF
   go_wp2_with fail
   refine (HF.out).mono ?_
   rintro e w2 ⟨rfl, hb2⟩
   go_wp2_with fail
   go_ret
   exact ⟨rfl, HW1.out.trans (hb2.mono HW1.out.size)⟩
 | true =>
   rw [hfew] at HF; obtain ⟨hfe, hf6, hfm⟩ := few_ifc hfew
   have HFe : Hid (∀ e ∈ x.entries, szS e.scheme ∧ e.scheme.params.length ≤ 13 ∧ (kAJ e.scheme = true → e.scheme.wh.length ≤ 8) ∧ e.name.size ≤ 40) := hJ (fun e he => few_ent (hfe e he) (HWz.out e he))
   have hn6 : n ≤ 6 := by rw [← HL.out]; exact hf6
   clear hfe hf6 hfew HBg HMz HWz
   go_wp2_with fail
   refine HF.out.mono ?_
   rintro e w2 ⟨rfl, hb2⟩
   have HX2 := hJ (HX1.out.below hb2 HX1.out.lt)
   have HW2 : Hid (Below w.heap.size w w2) := hJ (HW1.out.trans (hb2.mono HW1.out.size))
   have HFn := hJ (law57_few (HNs.out.below HW2.out) HNb.out); clear g0 g1 hb2 HX1 HW1 HF HNb
   cases hfn : fewN ns with
   | false =>
     rw [hfn] at HFn
     go_wp2_with fail
     refine HFn.out.mono ?_
     rintro e _ ⟨rfl, rfl⟩
     go_wp2_with fail
     go_ret
     exact ⟨rfl, HW2.out⟩
   | true =>
     rw [hfn] at HFn
     have hn8 : n2 ≤ 8 := by rw [← HL2.out]; exact (few_names hfn).1
     clear hfn
     go_wp2_with fail
     refine HFn.out.mono ?_
     rintro e _ ⟨rfl, rfl⟩
     have y0 := HX2.out.cell 0 _ rfl; have y1 := HX2.out.cell 1 _ rfl
     have hZ2 : w.heap.size < w2.heap.size := HX2.out.lt
     have HCo := hJ (ours_at (x := x) (HS.out.below HW2.out) (by omega))
     clear HFn
     go_wp2_with fail
     refine HCo.out.mono ?_
     rintro e w3 ⟨⟨v3, rfl, hown3⟩, hb3⟩
     obtain ⟨a3, c3, rfl, hs3, hf3⟩ := hown3.ready
     rw [HL.out] at hs3 ⊢
     have HW3 : Hid (Below w.heap.size w w3) := hJ (HW2.out.trans (hb3.mono HW2.out.size))
     have HX3 := hJ (HX2.out.below hb3 HX2.out.lt); have hz3 := hb3.size
     have hA4 : Below w3.heap.size w3 (w3.alloc (.cells #[.string x.module_, .slice a3 n c3] 29)) := (Below.refl _ _).alloc (Nat.le_refl _) _
     have hz4 : (w3.alloc (.cells #[.string x.module_, .slice a3 n c3] 29)).heap.size = w3.heap.size + 1 := by simp
     have HO4 := hJ (Bx.fresh w3 29 [.string x.module_, .slice a3 n c3]); have HX4 := hJ (HX3.out.below hA4 HX3.out.lt)
     have HSo4 := hJ ((hs3.mono (S' := fun k => k < w3.heap.size) (fun k hk _ => hk.2)).below hA4)
     have hf4 := hf3.below hA4.size; have HW4 := hJ (HW3.out.trans (hA4.mono HW3.out.size)); have o0 := HO4.out.cell 0 _ rfl; have o1 := HO4.out.cell 1 _ rfl; clear hown3 hb3 hs3 hf3 HX2 HW2 y0 y1 HCo HX3 HW3 hA4
     go_wp2_with fail
     generalize (w3.alloc (.cells #[.string x.module_, .slice a3 n c3] 29)) = W4 at *
     have HMk := hJ (kFU (mod := x.module_) HSo4.out hf4 (by rw [HL.out]; omega) (fun e he => fine_of (HFe.out e he)) (by omega) (HE.out W4 HW4.out))
     refine HMk.out.mono ?_
     rintro e w5 ⟨⟨A, eA, aA, cA, rfl, hsA, hslA⟩, hb5⟩
     have HSyA := hJ hsA
     have hA6 : Below w5.heap.size w5 (w5.alloc (.cells #[.string A.module_, .slice aA A.entries.length cA] 29)) := (Below.refl _ _).alloc (Nat.le_refl _) _
     have hz6 : (w5.alloc (.cells #[.string A.module_, .slice aA A.entries.length cA] 29)).heap.size = w5.heap.size + 1 := by simp
     have hB46 := hb5.trans (hA6.mono hb5.size); have HA6 := hJ (Bx.fresh w5 29 [.string A.module_, .slice aA A.entries.length cA]); have HX6 := hJ (HX4.out.below hB46 HX4.out.lt); have HO6 := hJ (HO4.out.below hB46 HO4.out.lt); have HSo6 := hJ (HSo4.out.below hB46); have HSA6 := hJ ((hslA.all).below hA6); have HW6 := hJ (HW4.out.trans (hB46.mono HW4.out.size)); have x0 := HX6.out.cell 0 _ rfl; have x1 := HX6.out.cell 1 _ rfl; have hz45 := hb5.size; clear hsA hslA hb5 HX4 HO4 HSo4 hf4 HW4 o0 o1 HMk hA6 hB46
     go_wp2_with fail
     generalize (w5.alloc (.cells #[.string A.module_, .slice aA A.entries.length cA] 29)) = W6 at *
     have HMr := hJ (ref57_Make (mod := x.module_) (HS.out.below HW6.out) (by omega) (fun e he => by have h := HFe.out e he; exact ⟨h.1, by omega, by omega, fun hv => by have := h.2.2.1 hv; omega⟩) (by omega))
     refine HMr.out.mono ?_
     rintro e w7 ⟨⟨B, eB, aB, cB, rfl, hsB, hslB⟩, hb7⟩
     obtain ⟨rfl, rfl⟩ := says_uniq HSyA.out hsB
     obtain ⟨hA6, hAm, hAe⟩ := says_few HSyA.out hfm (by rw [HL.out]; exact hn6) HFe.out
     have HAe := hJ hAe; have HA6l := hJ hA6
     have hA8 : Below w7.heap.size w7 (w7.alloc (.cells #[.string A.module_, .slice aB A.entries.length cB] 24)) := (Below.refl _ _).alloc (Nat.le_refl _) _
     have hz8 : (w7.alloc (.cells #[.string A.module_, .slice aB A.entries.length cB] 24)).heap.size = w7.heap.size + 1 := by simp
     have hB68 := hb7.trans (hA8.mono hb7.size); have HB8 := hJ (Bx.fresh w7 24 [.string A.module_, .slice aB A.entries.length cB]); have HX8 := hJ (HX6.out.below hB68 HX6.out.lt); have HO8 := hJ (HO6.out.below hB68 HO6.out.lt); have HA8 := hJ (HA6.out.below hB68 HA6.out.lt); have HSo8 := hJ (HSo6.out.below hB68); have HSA8 := hJ (HSA6.out.below hB68); have HSB8 := hJ ((hslB.all).below hA8); have HW8 := hJ (HW6.out.trans (hB68.mono HW6.out.size)); have o0 := HO8.out.cell 0 _ rfl; have o1 := HO8.out.cell 1 _ rfl; have hz67 := hb7.size; clear hsB hslB hb7 HX6 HO6 HA6 HSo6 HSA6 HW6 x0 x1 HMr hA8 hB68 hA6 hAe HSyA
     go_wp2_with fail
     generalize (w7.alloc (.cells #[.string A.module_, .slice aB A.entries.length cB] 24)) = W8 at *
     have HNp := signature_Narrow (x := x) (ns := ns) (S := fun k => k < w3.heap.size) (a := a3) (c := c3) (by rw [HL.out]; exact HSo8.out) (HNs.out.below HW8.out) (by omega) (fun e he => ⟨(HFe.out e he).1, by have := (HFe.out e he).2.2.2; omega⟩) (by omega) (HE.out W8 HW8.out)
     rw [HL.out] at HNp; have HNp := hJ HNp
     refine HNp.out.mono ?_
     rintro e w9 ⟨⟨C, eC, aC, cC, rfl, hsC, hslC⟩, hb9⟩
     have HSyC := hJ hsC
     have hA10 : Below w9.heap.size w9 (w9.alloc (.cells #[.string C.module_, .slice aC C.entries.length cC] 29)) := (Below.refl _ _).alloc (Nat.le_refl _) _
     have hz10 : (w9.alloc (.cells #[.string C.module_, .slice aC C.entries.length cC] 29)).heap.size = w9.heap.size + 1 := by simp
     have hB810 := hb9.trans (hA10.mono hb9.size); have HC10 := hJ (Bx.fresh w9 29 [.string C.module_, .slice aC C.entries.length cC]); have HX10 := hJ (HX8.out.below hB810 HX8.out.lt); have HO10 := hJ (HO8.out.below hB810 HO8.out.lt); have HA10 := hJ (HA8.out.below hB810 HA8.out.lt); have HB10 := hJ (HB8.out.below hB810 HB8.out.lt); have HSo10 := hJ (HSo8.out.below hB810); have HSA10 := hJ (HSA8.out.below hB810); have HSB10 := hJ (HSB8.out.below hB810); have HSC10 := hJ ((hslC.all).below hA10); have HW10 := hJ (HW8.out.trans (hB810.mono HW8.out.size)); have x0 := HX10.out.cell 0 _ rfl; have x1 := HX10.out.cell 1 _ rfl; have hz89 := hb9.size; clear hsC hslC hb9 HX8 HO8 HA8 HB8 HSo8 HSA8 HSB8 HW8 o0 o1 HNp hA10 hB810
     go_upto_region 9 with fail
     go_cut [5, 6, 7, 8, 9, 10, 11, 12, 13] (fun v5 v6 v7 v8 v9 v10 v11 v12 v13 W => ∃ (gD : Nat) (aD : Option Addr) (cD : Nat), v5 = .pointer (some ⟨w3.heap.size, 0, none⟩) ∧ v6 = .pointer (some ⟨w5.heap.size, 0, none⟩) ∧ v7 = .int .i64 eA ∧ v8 = .pointer (some ⟨w7.heap.size, 0, none⟩) ∧ v9 = .int .i64 eA ∧ v10 = .pointer (some ⟨w9.heap.size, 0, none⟩) ∧ v11 = .int .i64 eC ∧ v12 = .pointer (some ⟨gD, 0, none⟩) ∧ v13 = .int .i64 eC ∧ Hid (Bx W gD 24 [.string C.module_, .slice aD C.entries.length cD]) ∧ Hid (Sl REnt All W aD C.entries.length cD C.entries) ∧ Hid (Below (w9.heap.size + 1) (w9.alloc (.cells #[.string C.module_, .slice aC C.entries.length cC] 29)) W))
     case first =>
      go_wp2_with fail
      have HNr := ref57_Narrow (x := x) (ns := ns) (S := fun k => k < w.heap.size) (a := a) (c := c) (w := (w9.alloc (.cells #[.string C.module_, .slice aC C.entries.length cC] 29))) (by rw [HL.out]; exact HS.out.below HW10.out) (HNs.out.below HW10.out) (by omega) (fun e he => ⟨(HFe.out e he).1, by have := (HFe.out e he).2.2.2; omega, by have := (HFe.out e he).2.1; omega⟩) (by omega)
      rw [HL.out] at HNr; have HNr := hJ HNr
      refine HNr.out.mono ?_
      rintro e w11 ⟨⟨D, eD, aD, cD, rfl, hsD, hslD⟩, hb11⟩
      obtain ⟨rfl, rfl⟩ := nars_uniq HSyC.out hsD; rw [hz10] at hb11; have hz11 := hb11.size; have HBc := hJ hb11; have HSl := hJ hslD.all; clear hsD hslD hb11 x0 x1 HNr; rw [hz10] at hz11
      go_wp2_with fail
      go_meet
      exact ⟨w11.heap.size, aD, cD, rfl, rfl, rfl, rfl, rfl, rfl, rfl, rfl, rfl, hJ (Bx.fresh w11 _ _), hJ (HSl.out.below ((Below.refl _ _).alloc (Nat.le_refl _) _)), hJ (HBc.out.alloc hz11 _)⟩
     case rest =>
      obtain ⟨gD, aD, cD, rfl, rfl, rfl, rfl, rfl, rfl, rfl, rfl, rfl, HDc, HSDc, HBc⟩ := hcut
      generalize hwx : wc = wx at *
      clear hwx
      have HBc' : Hid (Below (w9.alloc (.cells #[.string C.module_, .slice aC C.entries.length cC] 29)).heap.size (w9.alloc (.cells #[.string C.module_, .slice aC C.entries.length cC] 29)) wx) := hJ (by rw [hz10]; exact HBc.out)
      have HXc := hJ (HX10.out.below HBc'.out HX10.out.lt); have HOc := hJ (HO10.out.below HBc'.out HO10.out.lt); have HAc := hJ (HA10.out.below HBc'.out HA10.out.lt); have HBxc := hJ (HB10.out.below HBc'.out HB10.out.lt); have HCc := hJ (HC10.out.below HBc'.out HC10.out.lt); have HSoc := hJ (HSo10.out.below HBc'.out); have HSAc := hJ (HSA10.out.below HBc'.out); have HSBc := hJ (HSB10.out.below HBc'.out); have HSCc := hJ (HSC10.out.below HBc'.out); have HWc := hJ (HW10.out.trans (HBc'.out.mono HW10.out.size)); have hCf := nars_few HSyC.out
      have hC6 : C.entries.length ≤ 100 := by have := hCf.1; rw [HL.out] at this; omega
      have HCe : Hid (∀ e ∈ C.entries, slim e) := hJ (fun e he => by have := (HFe.out e (hCf.2 e he)).2.1; unfold slim; omega)
      clear hCf HX10 HO10 HA10 HB10 HC10 HSo10 HSA10 HSB10 HSC10 HW10 HBc HBc' x0 x1 HSyC hz10 hz89 hz8 hz67 hz6 hz45 hz4 hz3; have i0 := HXc.out.cell 0 _ rfl; have i1 := HXc.out.cell 1 _ rfl; have o0 := HOc.out.cell 0 _ rfl; have o1 := HOc.out.cell 1 _ rfl; have p0 := HAc.out.cell 0 _ rfl; have p1 := HAc.out.cell 1 _ rfl; have q0 := HBxc.out.cell 0 _ rfl; have q1 := HBxc.out.cell 1 _ rfl; have r0 := HCc.out.cell 0 _ rfl; have r1 := HCc.out.cell 1 _ rfl; have t0 := HDc.out.cell 0 _ rfl; have t1 := HDc.out.cell 1 _ rfl; have hA6 := HA6l.out
      have HTA := hJ (fun (W : World) (hW : Below wx.heap.size wx W) => (theirs_any (HSAc.out.below hW) (by omega)).mono fun e w' ⟨h, hb⟩ => (⟨h, hW.trans (hb.mono hW.size), hb⟩ : _ ∧ Below wx.heap.size wx w' ∧ Below W.heap.size W w'))
      have HTC := hJ (fun (W : World) (hW : Below wx.heap.size wx W) => (theirs_any (HSCc.out.below hW) hC6).mono fun e w' ⟨h, hb⟩ => (⟨h, hW.trans (hb.mono hW.size), hb⟩ : _ ∧ Below wx.heap.size wx w' ∧ Below W.heap.size W w'))
      have HQA : Hid (∀ (W : World) (a1 : Option Addr) (c1 : Nat), Below wx.heap.size wx W → Sl REnt All W a1 A.entries.length c1 A.entries → Calls Tryz.prog 11 #[.agg #[.string A.module_, .slice a1 A.entries.length c1], .agg #[.string A.module_, .slice aB A.entries.length cB]] W fun e w' => e = .returned (.bool true) ∧ Below wx.heap.size wx w') := hJ (fun W a1 c1 hW h1 => by
       have h := ref57_Equal (x := A) (y := A) h1 (HSBc.out.below hW) (fun e he => by have := (HAe.out e he).2.1; unfold slim; omega) (fun e he => by have := (HAe.out e he).2.1; unfold slim; omega)
       rw [(eqIfc_iff A A).2 rfl] at h
       exact h.mono fun e w' ⟨h1, hb⟩ => ⟨h1, hW.trans (hb.mono hW.size)⟩)
      have HQC : Hid (∀ (W : World) (a1 : Option Addr) (c1 : Nat), Below wx.heap.size wx W → Sl REnt All W a1 C.entries.length c1 C.entries → Calls Tryz.prog 11 #[.agg #[.string C.module_, .slice a1 C.entries.length c1], .agg #[.string C.module_, .slice aD C.entries.length cD]] W fun e w' => e = .returned (.bool true) ∧ Below wx.heap.size wx w') := hJ (fun W a1 c1 hW h1 => by
       have h := ref57_Equal (x := C) (y := C) h1 (HSDc.out.below hW) HCe.out HCe.out; rw [(eqIfc_iff C C).2 rfl] at h
       exact h.mono fun e w' ⟨h1, hb⟩ => ⟨h1, hW.trans (hb.mono hW.size)⟩)
      obtain ⟨bv, hbv⟩ : ∃ bv, kAS x = bv := ⟨_, rfl⟩
      have HVs : Hid (∀ (W : World), Below wx.heap.size wx W → Calls Tryz.prog 13 #[.agg #[.string x.module_, .slice a3 n c3]] W fun e w' => e = .returned (.bool bv) ∧ Below wx.heap.size wx w') := hJ (fun W hW => by
       have h := kB9 (x := x) (a := a3) (c := c3) (S := fun k => k < w3.heap.size) (by rw [HL.out]; exact HSoc.out.below hW) (fun e he => ⟨(HFe.out e he).1, by have := (HFe.out e he).2.2.2; omega⟩) (by omega) (HE.out W (HWc.out.trans (hW.mono HWc.out.size)))
       rw [HL.out, hbv] at h
       exact h.mono fun e w' ⟨h1, hb⟩ => ⟨h1, hW.trans (hb.mono hW.size)⟩)
      have HVr : Hid (∀ (W : World), Below wx.heap.size wx W → Calls Tryz.prog 18 #[.agg #[.string x.module_, .slice a n c]] W fun e w' => e = .returned (.bool bv) ∧ Below wx.heap.size wx w') := hJ (fun W hW => by
       have h := kF6 (x := x) (a := a) (c := c) (S := fun k => k < w.heap.size) (by rw [HL.out]; exact HS.out.below (HWc.out.trans (hW.mono HWc.out.size))) (fun e he => ⟨(HFe.out e he).1, by have := (HFe.out e he).2.2.2; omega, by have := (HFe.out e he).2.1; omega⟩) (by omega)
       rw [HL.out, hbv] at h
       exact h.mono fun e w' ⟨h1, hb⟩ => ⟨h1, hW.trans (hb.mono hW.size)⟩)
      have hbb : (bv != bv) = false := bne_self_eq_false _
      have heA : (eA != eA) = false := bne_self_eq_false _
      have heC : (eC != eC) = false := bne_self_eq_false _
      clear hbv HSAc HSBc HSCc HSDc HAe HCe HAc HBxc HCc HDc hA6 HA6l hC6
      go_upto_region 10 with fail
      go_cut [87] (fun v W => v = .bool false ∧ Hid (Below wx.heap.size wx W))
      case first =>
       go_region_held3 (fun W => W.cell? ⟨w.heap.size, 0, none⟩ = some (.string x.module_) ∧ W.cell? ⟨w.heap.size, 1, none⟩ = some (.slice a n c) ∧ W.cell? ⟨w3.heap.size, 0, none⟩ = some (.string x.module_) ∧ W.cell? ⟨w3.heap.size, 1, none⟩ = some (.slice a3 n c3) ∧ W.cell? ⟨w5.heap.size, 0, none⟩ = some (.string A.module_) ∧ W.cell? ⟨w5.heap.size, 1, none⟩ = some (.slice aA A.entries.length cA) ∧ W.cell? ⟨w7.heap.size, 0, none⟩ = some (.string A.module_) ∧ W.cell? ⟨w7.heap.size, 1, none⟩ = some (.slice aB A.entries.length cB) ∧ W.cell? ⟨w9.heap.size, 0, none⟩ = some (.string C.module_) ∧ W.cell? ⟨w9.heap.size, 1, none⟩ = some (.slice aC C.entries.length cC) ∧ W.cell? ⟨gD, 0, none⟩ = some (.string C.module_) ∧ W.cell? ⟨gD, 1, none⟩ = some (.slice aD C.entries.length cD)) (first | (with_reducible exact ⟨zi0, zi1, zo0, zo1, zp0, zp1, zq0, zq1, zr0, zr1, zt0, zt1⟩) | (with_reducible exact ⟨i0, i1, o0, o1, p0, p1, q0, q1, r0, r1, t0, t1⟩) | go_keep) (first
        | (go_at_call_of 12 (Value.slice aA A.entries.length cA)
           refine (HTA.out _ ?hw).mono ?_
           case hw => (repeat (first | assumption | exact Below.refl _ _ | exact Hid.out (by assumption) | refine kCU ?_ _ | refine kDG ?_))
           rintro e u1 ⟨⟨b1, d1, rfl, hu1⟩, hBz, hb1⟩
           have zi0 := kAC i0 _ hBz; have zi1 := kAC i1 _ hBz; have zo0 := kAC o0 _ hBz; have zo1 := kAC o1 _ hBz; have zp0 := kAC p0 _ hBz; have zp1 := kAC p1 _ hBz; have zq0 := kAC q0 _ hBz; have zq1 := kAC q1 _ hBz; have zr0 := kAC r0 _ hBz; have zr1 := kAC r1 _ hBz; have zt0 := kAC t0 _ hBz; have zt1 := kAC t1 _ hBz
           )
        | (go_at_call_of 12 (Value.slice aC C.entries.length cC)
           refine (HTC.out _ ?hw).mono ?_
           case hw => (repeat (first | assumption | exact Below.refl _ _ | exact Hid.out (by assumption) | refine kCU ?_ _ | refine kDG ?_))
           rintro e u2 ⟨⟨b2, d2, rfl, hu2⟩, hBz, hb2⟩
           have zi0 := kAC i0 _ hBz; have zi1 := kAC i1 _ hBz; have zo0 := kAC o0 _ hBz; have zo1 := kAC o1 _ hBz; have zp0 := kAC p0 _ hBz; have zp1 := kAC p1 _ hBz; have zq0 := kAC q0 _ hBz; have zq1 := kAC q1 _ hBz; have zr0 := kAC r0 _ hBz; have zr1 := kAC r1 _ hBz; have zt0 := kAC t0 _ hBz; have zt1 := kAC t1 _ hBz
           )
        | (go_at_call_of 11 (Value.slice aB A.entries.length cB)
           refine (HQA.out _ _ _ ?hw ?h1).mono ?_
           case hw => (repeat (first | assumption | exact Below.refl _ _ | exact Hid.out (by assumption) | refine kCU ?_ _ | refine kDG ?_))
           case h1 => exact hu1
           rintro e u3 ⟨rfl, hBz⟩
           have zi0 := kAC i0 _ hBz; have zi1 := kAC i1 _ hBz; have zo0 := kAC o0 _ hBz; have zo1 := kAC o1 _ hBz; have zp0 := kAC p0 _ hBz; have zp1 := kAC p1 _ hBz; have zq0 := kAC q0 _ hBz; have zq1 := kAC q1 _ hBz; have zr0 := kAC r0 _ hBz; have zr1 := kAC r1 _ hBz; have zt0 := kAC t0 _ hBz; have zt1 := kAC t1 _ hBz
           )
        | (go_at_call_of 11 (Value.slice aD C.entries.length cD)
           refine (HQC.out _ _ _ ?hw ?h1).mono ?_
           case hw => (repeat (first | assumption | exact Below.refl _ _ | exact Hid.out (by assumption) | refine kCU ?_ _ | refine kDG ?_))
           case h1 => exact hu2
           rintro e u4 ⟨rfl, hBz⟩
           have zi0 := kAC i0 _ hBz; have zi1 := kAC i1 _ hBz; have zo0 := kAC o0 _ hBz; have zo1 := kAC o1 _ hBz; have zp0 := kAC p0 _ hBz; have zp1 := kAC p1 _ hBz; have zq0 := kAC q0 _ hBz; have zq1 := kAC q1 _ hBz; have zr0 := kAC r0 _ hBz; have zr1 := kAC r1 _ hBz; have zt0 := kAC t0 _ hBz; have zt1 := kAC t1 _ hBz
           )
        | (go_at_call 13
           refine (HVs.out _ ?hw).mono ?_
           case hw => (repeat (first | assumption | exact Below.refl _ _ | exact Hid.out (by assumption) | refine kCU ?_ _ | refine kDG ?_))
           rintro e u5 ⟨rfl, hBz⟩
           have zi0 := kAC i0 _ hBz; have zi1 := kAC i1 _ hBz; have zo0 := kAC o0 _ hBz; have zo1 := kAC o1 _ hBz; have zp0 := kAC p0 _ hBz; have zp1 := kAC p1 _ hBz; have zq0 := kAC q0 _ hBz; have zq1 := kAC q1 _ hBz; have zr0 := kAC r0 _ hBz; have zr1 := kAC r1 _ hBz; have zt0 := kAC t0 _ hBz; have zt1 := kAC t1 _ hBz
           )
        | (go_at_call 18
           refine (HVr.out _ ?hw).mono ?_
           case hw => (repeat (first | assumption | exact Below.refl _ _ | exact Hid.out (by assumption) | refine kCU ?_ _ | refine kDG ?_))
           rintro e u6 ⟨rfl, hBz⟩
           have zi0 := kAC i0 _ hBz; have zi1 := kAC i1 _ hBz; have zo0 := kAC o0 _ hBz; have zo1 := kAC o1 _ hBz; have zp0 := kAC p0 _ hBz; have zp1 := kAC p1 _ hBz; have zq0 := kAC q0 _ hBz; have zq1 := kAC q1 _ hBz; have zr0 := kAC r0 _ hBz; have zr1 := kAC r1 _ hBz; have zt0 := kAC t0 _ hBz; have zt1 := kAC t1 _ hBz
           ))
       all_goals
        have HBB := hJ hBz; clear zi0 zi1 zo0 zo1 zp0 zp1 zq0 zq1 zr0 zr1 zt0 zt1 i0 i1 o0 o1 p0 p1 q0 q1 r0 r1 t0 t1 hu1 hu2
        go_wp2_with fail
        go_meet
        exact ⟨rfl, HBB⟩
      case rest =>
       obtain ⟨rfl, HB10⟩ := hcut; clear HTA HTC HQA HQC HVs HVr hbb heA heC i0 i1 o0 o1 p0 p1 q0 q1 r0 r1 t0 t1
       have HFw : Hid (∀ e ∈ x.entries, e.scheme.params.length ≤ 1000000) := hJ (fun e he => by have := (HFe.out e he).2.1; omega)
       go_wp2_with fail
       go_loopw [14] (fun i wr => ∃ j : Nat, j ≤ n2 ∧ i = .int .i64 j ∧ Below wx.heap.size wx wr) (fun i _ => n2 - (intOf i).toNat)
       case atStart => exact ⟨0, Nat.zero_le _, rfl, HB10.out⟩
       case round =>
        clear HB10; obtain ⟨j, hj, rfl, hB⟩ := hrel; have hzx := hB.size
        by_cases hlt : j < n2
        · obtain ⟨gn, on, rfl, hgnW, _⟩ := HNs.out.form j hlt
          have HWr := hJ (HWc.out.trans (hB.mono HWc.out.size)); have xn := (HNs.out.below HWr.out).str j hlt; have HXr := hJ (HXc.out.below hB HXc.out.lt); have HOr := hJ (HOc.out.below hB HOc.out.lt); have x0 := HOr.out.cell 0 _ rfl; have x1 := HOr.out.cell 1 _ rfl
          have hgl : w3.heap.size < wr.heap.size := HOr.out.lt
          have hgl2 : w.heap.size < wr.heap.size := HXr.out.lt
          have hgn : gn < wr.heap.size := by omega
          have HSs : Hid (Sl REnt (fun k => k < wr.heap.size) wr a3 n c3 x.entries) := hJ ((HSoc.out.below hB).mono (fun k hk _ => by omega))
          have HSi : Hid (Sl REnt (fun k => k < wr.heap.size) wr a n c x.entries) := hJ ((HS.out.below HWr.out).mono (fun k hk _ => by omega))
          generalize ns.getD j default = s at *
          have HFd : Hid (∀ W, Below wr.heap.size wr W → Calls Tryz.prog 19 #[.agg #[.string x.module_, .slice a3 n c3], .string s] W fun e w' => (∃ (r : Sch) (ok : Bool) (ds : List Value), e = .returned (.tuple #[.agg ds.toArray, .bool ok]) ∧ kE2 x s r ok ∧ RSch.rd (fun k => k < wr.heap.size ∧ k < W.heap.size) w' ds r) ∧ Below W.heap.size W w') := hJ (fun W hW => by
           have h := signature_Find (x := x) (a := a3) (c := c3) (S := fun k => k < wr.heap.size) (by rw [HL.out]; exact HSs.out.below hW) (fun e he => ⟨(HFe.out e he).1, by have := (HFe.out e he).2.2.2; omega⟩) (by omega) (HE.out W (HWr.out.trans (hW.mono HWr.out.size))) s
           rwa [HL.out] at h)
          go_upto_region 15 with fail
          go_cut [15, 16] (fun va vb W => ∃ (g : Nat) (r : Sch) (ok : Bool) (p5 : Option Addr) (pc5 : Nat) (t5 : Option Addr) (tc5 : Nat) (q5 : Option Addr) (qc5 : Nat), va = .pointer (some ⟨g, 0, none⟩) ∧ vb = .bool ok ∧ wr.heap.size ≤ g ∧ Hid (Bx W g 41 [.slice p5 r.params.length pc5, .string r.result.elem, .string r.result.shape.row, .slice t5 r.result.shape.dims.length tc5, .slice q5 r.wh.length qc5]) ∧ Hid (kE2 x s r ok) ∧ Hid (RSch.rd (fun k => k < wr.heap.size) W [.slice p5 r.params.length pc5, .string r.result.elem, .string r.result.shape.row, .slice t5 r.result.shape.dims.length tc5, .slice q5 r.wh.length qc5] r) ∧ Hid (Below wr.heap.size wr W))
          case first =>
           go_region_held3 (fun W => W.cell? ⟨w3.heap.size, 0, none⟩ = some (.string x.module_) ∧ W.cell? ⟨w3.heap.size, 1, none⟩ = some (.slice a3 n c3) ∧ W.cell? ⟨gn, on + j, none⟩ = some (.string s)) (first | (with_reducible exact ⟨b0, b1, b2⟩) | (with_reducible exact ⟨x0, x1, xn⟩) | go_keep) (first
            | (go_at_call 19
               refine (HFd.out wr.drew ((Below.refl _ _).drew)).mono ?_
               rintro e w6 ⟨⟨r, ok, ds, rfl, hfs, hrd⟩, hb6⟩
               have hB6 : Below wr.heap.size wr w6 := Below.trans ((Below.refl wr.heap.size wr).drew) (hb6.mono (by simp))
               have hrd2 : RSch.rd (fun k => k < wr.heap.size) w6 ds r := RSch.mono hrd (fun k hk _ => hk.1)
               clear hrd; obtain ⟨_, _, _, rfl, ⟨p5, pc5, rfl, hp5⟩, ⟨t5, tc5, rfl, ht5⟩, ⟨q5, qc5, rfl, hq5⟩⟩ := hrd2
               have hRd6 : RSch.rd (fun k => k < wr.heap.size) w6 [.slice p5 r.params.length pc5, .string r.result.elem, .string r.result.shape.row, .slice t5 r.result.shape.dims.length tc5, .slice q5 r.wh.length qc5] r := ⟨_, _, _, rfl, ⟨p5, pc5, rfl, hp5⟩, ⟨t5, tc5, rfl, ht5⟩, ⟨q5, qc5, rfl, hq5⟩⟩
               clear hp5 ht5 hq5; have b0 := kAC x0 _ hB6; have b1 := kAC x1 _ hB6; have b2 := kAC xn _ hB6
               )
            | (go_at_call 19
               refine (HFd.out wr (Below.refl _ _)).mono ?_
               rintro e w6 ⟨⟨r, ok, ds, rfl, hfs, hrd⟩, hb6⟩
               have hB6 : Below wr.heap.size wr w6 := Below.trans (Below.refl wr.heap.size wr) (hb6.mono (by simp))
               have hrd2 : RSch.rd (fun k => k < wr.heap.size) w6 ds r := RSch.mono hrd (fun k hk _ => hk.1)
               clear hrd; obtain ⟨_, _, _, rfl, ⟨p5, pc5, rfl, hp5⟩, ⟨t5, tc5, rfl, ht5⟩, ⟨q5, qc5, rfl, hq5⟩⟩ := hrd2
               have hRd6 : RSch.rd (fun k => k < wr.heap.size) w6 [.slice p5 r.params.length pc5, .string r.result.elem, .string r.result.shape.row, .slice t5 r.result.shape.dims.length tc5, .slice q5 r.wh.length qc5] r := ⟨_, _, _, rfl, ⟨p5, pc5, rfl, hp5⟩, ⟨t5, tc5, rfl, ht5⟩, ⟨q5, qc5, rfl, hq5⟩⟩
               clear hp5 ht5 hq5; have b0 := kAC x0 _ hB6; have b1 := kAC x1 _ hB6; have b2 := kAC xn _ hB6
               )
            | (go_at_call 19
               refine (HFd.out (wr.alloc (.cells #[.slice none 0 0, .string ⟨#[]⟩, .string ⟨#[]⟩, .slice none 0 0, .slice none 0 0] 41)).drew (((Below.refl _ _).alloc (Nat.le_refl _) _).drew)).mono ?_
               rintro e w6 ⟨⟨r, ok, ds, rfl, hfs, hrd⟩, hb6⟩
               have HP6 : Hid (Bx w6 wr.heap.size 41 [.slice none 0 0, .string ⟨#[]⟩, .string ⟨#[]⟩, .slice none 0 0, .slice none 0 0]) := hJ (Bx.below (Bx.fresh wr _ _) hb6 (by simp))
               have hl6 := HP6.out.lt
               have hn1 : ¬ wr.heap.size = w3.heap.size := by omega
               have hn2 : ¬ w3.heap.size = wr.heap.size := by omega
               have hn3 : ¬ wr.heap.size = gn := by omega
               have hn4 : ¬ gn = wr.heap.size := by omega
               have c0 := HP6.out.cell 0 _ rfl; have f0 := HP6.out.fz 0; have c1 := HP6.out.cell 1 _ rfl; have f1 := HP6.out.fz 1; have c2 := HP6.out.cell 2 _ rfl; have f2 := HP6.out.fz 2; have c3 := HP6.out.cell 3 _ rfl; have f3 := HP6.out.fz 3; have c4 := HP6.out.cell 4 _ rfl; have f4 := HP6.out.fz 4
               have hB6 : Below wr.heap.size wr w6 := Below.trans (((Below.refl wr.heap.size wr).alloc Nat.le.refl (.cells #[.slice none 0 0, .string ⟨#[]⟩, .string ⟨#[]⟩, .slice none 0 0, .slice none 0 0] 41)).drew) (hb6.mono (by simp))
               have hrd2 : RSch.rd (fun k => k < wr.heap.size) w6 ds r := RSch.mono hrd (fun k hk _ => hk.1)
               clear hrd; obtain ⟨_, _, _, rfl, ⟨p5, pc5, rfl, hp5⟩, ⟨t5, tc5, rfl, ht5⟩, ⟨q5, qc5, rfl, hq5⟩⟩ := hrd2
               have hRd6 : RSch.rd (fun k => k < wr.heap.size) w6 [.slice p5 r.params.length pc5, .string r.result.elem, .string r.result.shape.row, .slice t5 r.result.shape.dims.length tc5, .slice q5 r.wh.length qc5] r := ⟨_, _, _, rfl, ⟨p5, pc5, rfl, hp5⟩, ⟨t5, tc5, rfl, ht5⟩, ⟨q5, qc5, rfl, hq5⟩⟩
               clear hp5 ht5 hq5; have b0 := kAC x0 _ hB6; have b1 := kAC x1 _ hB6; have b2 := kAC xn _ hB6
               )
            | (go_at_call 19
               refine (HFd.out (wr.drew.alloc (.cells #[.slice none 0 0, .string ⟨#[]⟩, .string ⟨#[]⟩, .slice none 0 0, .slice none 0 0] 41)) (((Below.refl _ _).drew).alloc (Nat.le_refl _) _)).mono ?_
               rintro e w6 ⟨⟨r, ok, ds, rfl, hfs, hrd⟩, hb6⟩
               have HP6 : Hid (Bx w6 wr.heap.size 41 [.slice none 0 0, .string ⟨#[]⟩, .string ⟨#[]⟩, .slice none 0 0, .slice none 0 0]) := hJ (Bx.below (Bx.fresh wr.drew _ _) hb6 (by simp))
               have hl6 := HP6.out.lt
               have hn1 : ¬ wr.heap.size = w3.heap.size := by omega
               have hn2 : ¬ w3.heap.size = wr.heap.size := by omega
               have hn3 : ¬ wr.heap.size = gn := by omega
               have hn4 : ¬ gn = wr.heap.size := by omega
               have c0 := HP6.out.cell 0 _ rfl; have f0 := HP6.out.fz 0; have c1 := HP6.out.cell 1 _ rfl; have f1 := HP6.out.fz 1; have c2 := HP6.out.cell 2 _ rfl; have f2 := HP6.out.fz 2; have c3 := HP6.out.cell 3 _ rfl; have f3 := HP6.out.fz 3; have c4 := HP6.out.cell 4 _ rfl; have f4 := HP6.out.fz 4
               have hB6 : Below wr.heap.size wr w6 := Below.trans (((Below.refl wr.heap.size wr).drew).alloc Nat.le.refl (.cells #[.slice none 0 0, .string ⟨#[]⟩, .string ⟨#[]⟩, .slice none 0 0, .slice none 0 0] 41)) (hb6.mono (by simp))
               have hrd2 : RSch.rd (fun k => k < wr.heap.size) w6 ds r := RSch.mono hrd (fun k hk _ => hk.1)
               clear hrd; obtain ⟨_, _, _, rfl, ⟨p5, pc5, rfl, hp5⟩, ⟨t5, tc5, rfl, ht5⟩, ⟨q5, qc5, rfl, hq5⟩⟩ := hrd2
               have hRd6 : RSch.rd (fun k => k < wr.heap.size) w6 [.slice p5 r.params.length pc5, .string r.result.elem, .string r.result.shape.row, .slice t5 r.result.shape.dims.length tc5, .slice q5 r.wh.length qc5] r := ⟨_, _, _, rfl, ⟨p5, pc5, rfl, hp5⟩, ⟨t5, tc5, rfl, ht5⟩, ⟨q5, qc5, rfl, hq5⟩⟩
               clear hp5 ht5 hq5; have b0 := kAC x0 _ hB6; have b1 := kAC x1 _ hB6; have b2 := kAC xn _ hB6
               ))
           all_goals
            have HRd6 := hJ hRd6; have HFs6 := hJ hfs; have HBB := hJ hB6; have hz6 := hB6.size; clear hRd6 hfs hb6 b0 b1 b2 x0 x1 xn hB6
            go_wp2_with fail
            go_meet
           · exact ⟨w6.heap.size, r, ok, p5, pc5, t5, tc5, q5, qc5, rfl, rfl, hz6, hJ (Bx.fresh w6 _ _), HFs6, hJ (RSch.below HRd6.out ((Below.refl _ _).alloc (Nat.le_refl _) _)), hJ (HBB.out.alloc hz6 _)⟩
           · have hq := put5 (B := wr.heap.size) (g := wr.heap.size) (.slice p5 r.params.length pc5) (.string r.result.elem) (.string r.result.shape.row) (.slice t5 r.result.shape.dims.length tc5) (.slice q5 r.wh.length qc5) HP6.out HRd6.out (fun k hk hlt => by omega) HBB.out (Nat.le_refl _)
             exact ⟨wr.heap.size, r, ok, p5, pc5, t5, tc5, q5, qc5, rfl, rfl, Nat.le_refl _, hq.1, HFs6, hJ (RSch.mono hq.2.2.1.out (fun k hk _ => hk.1)), hq.2.2.2⟩
          case rest =>
           obtain ⟨g6, r6, ok6, p6, pc6, t6, tc6, q6, qc6, rfl, rfl, hg6, HP6, HF6, HR6, HB6⟩ := hcut; have XN6 := hJ (kAC xn _ HB6.out); clear x0 x1 xn HFd HSs
           generalize hwy : wc = wy at *
           clear hwy; have hz6 := HB6.out.size; have HXy := hJ (HXr.out.below HB6.out HXr.out.lt); have x0 := HXy.out.cell 0 _ rfl; have x1 := HXy.out.cell 1 _ rfl; have HWy := hJ (HWr.out.trans (HB6.out.mono HWr.out.size)); have xn := XN6.out
           have hgl3 : w.heap.size < wy.heap.size := by omega
           have hgn3 : gn < wy.heap.size := by omega
           have HSy : Hid (Sl REnt (fun k => k < wy.heap.size) wy a n c x.entries) := hJ ((HSi.out.below HB6.out).mono (fun k hk _ => by omega))
           have HFd : Hid (∀ W, Below wy.heap.size wy W → Calls Tryz.prog 20 #[.agg #[.string x.module_, .slice a n c], .string s] W fun e w' => (∃ (r : Sch) (ok : Bool) (ds : List Value), e = .returned (.tuple #[.agg ds.toArray, .bool ok]) ∧ kE2 x s r ok ∧ RSch.rd (fun k => k < wy.heap.size ∧ k < W.heap.size) w' ds r) ∧ Below W.heap.size W w') := hJ (fun W hW => by
            have h := ref57_Find (x := x) (a := a) (c := c) (S := fun k => k < wy.heap.size) (by rw [HL.out]; exact HSy.out.below hW) (fun e he => ⟨(HFe.out e he).1, by have := (HFe.out e he).2.2.2; omega, HFw.out e he⟩) (by omega) s
            rwa [HL.out] at h)
           clear hgl hgl2 hgn XN6 HSi
           go_upto_region 16 with fail
           go_cut [17, 18] (fun va vb W => ∃ (g : Nat) (r : Sch) (ok : Bool) (p5 : Option Addr) (pc5 : Nat) (t5 : Option Addr) (tc5 : Nat) (q5 : Option Addr) (qc5 : Nat), va = .pointer (some ⟨g, 0, none⟩) ∧ vb = .bool ok ∧ wy.heap.size ≤ g ∧ Hid (Bx W g 41 [.slice p5 r.params.length pc5, .string r.result.elem, .string r.result.shape.row, .slice t5 r.result.shape.dims.length tc5, .slice q5 r.wh.length qc5]) ∧ Hid (kE2 x s r ok) ∧ Hid (RSch.rd (fun k => k < wy.heap.size) W [.slice p5 r.params.length pc5, .string r.result.elem, .string r.result.shape.row, .slice t5 r.result.shape.dims.length tc5, .slice q5 r.wh.length qc5] r) ∧ Hid (Below wy.heap.size wy W))
           case first =>
            go_region_held3 (fun W => W.cell? ⟨w.heap.size, 0, none⟩ = some (.string x.module_) ∧ W.cell? ⟨w.heap.size, 1, none⟩ = some (.slice a n c) ∧ W.cell? ⟨gn, on + j, none⟩ = some (.string s)) (first | (with_reducible exact ⟨b0, b1, b2⟩) | (with_reducible exact ⟨x0, x1, xn⟩) | go_keep) (first
             | (go_at_call 20
                refine (HFd.out wy.drew ((Below.refl _ _).drew)).mono ?_
                rintro e w6 ⟨⟨r, ok, ds, rfl, hfs, hrd⟩, hb6⟩
                have hB6 : Below wy.heap.size wy w6 := Below.trans ((Below.refl wy.heap.size wy).drew) (hb6.mono (by simp))
                have hrd2 : RSch.rd (fun k => k < wy.heap.size) w6 ds r := RSch.mono hrd (fun k hk _ => hk.1)
                clear hrd; obtain ⟨_, _, _, rfl, ⟨p5, pc5, rfl, hp5⟩, ⟨t5, tc5, rfl, ht5⟩, ⟨q5, qc5, rfl, hq5⟩⟩ := hrd2
                have hRd6 : RSch.rd (fun k => k < wy.heap.size) w6 [.slice p5 r.params.length pc5, .string r.result.elem, .string r.result.shape.row, .slice t5 r.result.shape.dims.length tc5, .slice q5 r.wh.length qc5] r := ⟨_, _, _, rfl, ⟨p5, pc5, rfl, hp5⟩, ⟨t5, tc5, rfl, ht5⟩, ⟨q5, qc5, rfl, hq5⟩⟩
                clear hp5 ht5 hq5; have b0 := kAC x0 _ hB6; have b1 := kAC x1 _ hB6; have b2 := kAC xn _ hB6
                )
             | (go_at_call 20
                refine (HFd.out wy (Below.refl _ _)).mono ?_
                rintro e w6 ⟨⟨r, ok, ds, rfl, hfs, hrd⟩, hb6⟩
                have hB6 : Below wy.heap.size wy w6 := Below.trans (Below.refl wy.heap.size wy) (hb6.mono (by simp))
                have hrd2 : RSch.rd (fun k => k < wy.heap.size) w6 ds r := RSch.mono hrd (fun k hk _ => hk.1)
                clear hrd; obtain ⟨_, _, _, rfl, ⟨p5, pc5, rfl, hp5⟩, ⟨t5, tc5, rfl, ht5⟩, ⟨q5, qc5, rfl, hq5⟩⟩ := hrd2
                have hRd6 : RSch.rd (fun k => k < wy.heap.size) w6 [.slice p5 r.params.length pc5, .string r.result.elem, .string r.result.shape.row, .slice t5 r.result.shape.dims.length tc5, .slice q5 r.wh.length qc5] r := ⟨_, _, _, rfl, ⟨p5, pc5, rfl, hp5⟩, ⟨t5, tc5, rfl, ht5⟩, ⟨q5, qc5, rfl, hq5⟩⟩
                clear hp5 ht5 hq5; have b0 := kAC x0 _ hB6; have b1 := kAC x1 _ hB6; have b2 := kAC xn _ hB6
                )
             | (go_at_call 20
                refine (HFd.out (wy.alloc (.cells #[.slice none 0 0, .string ⟨#[]⟩, .string ⟨#[]⟩, .slice none 0 0, .slice none 0 0] 41)).drew (((Below.refl _ _).alloc (Nat.le_refl _) _).drew)).mono ?_
                rintro e w6 ⟨⟨r, ok, ds, rfl, hfs, hrd⟩, hb6⟩
                have HP6 : Hid (Bx w6 wy.heap.size 41 [.slice none 0 0, .string ⟨#[]⟩, .string ⟨#[]⟩, .slice none 0 0, .slice none 0 0]) := hJ (Bx.below (Bx.fresh wy _ _) hb6 (by simp))
                have hl6 := HP6.out.lt
                have hn1 : ¬ wy.heap.size = w.heap.size := by omega
                have hn2 : ¬ w.heap.size = wy.heap.size := by omega
                have hn3 : ¬ wy.heap.size = gn := by omega
                have hn4 : ¬ gn = wy.heap.size := by omega
                have c0 := HP6.out.cell 0 _ rfl; have f0 := HP6.out.fz 0; have c1 := HP6.out.cell 1 _ rfl; have f1 := HP6.out.fz 1; have c2 := HP6.out.cell 2 _ rfl; have f2 := HP6.out.fz 2; have c3 := HP6.out.cell 3 _ rfl; have f3 := HP6.out.fz 3; have c4 := HP6.out.cell 4 _ rfl; have f4 := HP6.out.fz 4
                have hB6 : Below wy.heap.size wy w6 := Below.trans (((Below.refl wy.heap.size wy).alloc Nat.le.refl (.cells #[.slice none 0 0, .string ⟨#[]⟩, .string ⟨#[]⟩, .slice none 0 0, .slice none 0 0] 41)).drew) (hb6.mono (by simp))
                have hrd2 : RSch.rd (fun k => k < wy.heap.size) w6 ds r := RSch.mono hrd (fun k hk _ => hk.1)
                clear hrd; obtain ⟨_, _, _, rfl, ⟨p5, pc5, rfl, hp5⟩, ⟨t5, tc5, rfl, ht5⟩, ⟨q5, qc5, rfl, hq5⟩⟩ := hrd2
                have hRd6 : RSch.rd (fun k => k < wy.heap.size) w6 [.slice p5 r.params.length pc5, .string r.result.elem, .string r.result.shape.row, .slice t5 r.result.shape.dims.length tc5, .slice q5 r.wh.length qc5] r := ⟨_, _, _, rfl, ⟨p5, pc5, rfl, hp5⟩, ⟨t5, tc5, rfl, ht5⟩, ⟨q5, qc5, rfl, hq5⟩⟩
                clear hp5 ht5 hq5; have b0 := kAC x0 _ hB6; have b1 := kAC x1 _ hB6; have b2 := kAC xn _ hB6
                )
             | (go_at_call 20
                refine (HFd.out (wy.drew.alloc (.cells #[.slice none 0 0, .string ⟨#[]⟩, .string ⟨#[]⟩, .slice none 0 0, .slice none 0 0] 41)) (((Below.refl _ _).drew).alloc (Nat.le_refl _) _)).mono ?_
                rintro e w6 ⟨⟨r, ok, ds, rfl, hfs, hrd⟩, hb6⟩
                have HP6 : Hid (Bx w6 wy.heap.size 41 [.slice none 0 0, .string ⟨#[]⟩, .string ⟨#[]⟩, .slice none 0 0, .slice none 0 0]) := hJ (Bx.below (Bx.fresh wy.drew _ _) hb6 (by simp))
                have hl6 := HP6.out.lt
                have hn1 : ¬ wy.heap.size = w.heap.size := by omega
                have hn2 : ¬ w.heap.size = wy.heap.size := by omega
                have hn3 : ¬ wy.heap.size = gn := by omega
                have hn4 : ¬ gn = wy.heap.size := by omega
                have c0 := HP6.out.cell 0 _ rfl; have f0 := HP6.out.fz 0; have c1 := HP6.out.cell 1 _ rfl; have f1 := HP6.out.fz 1; have c2 := HP6.out.cell 2 _ rfl; have f2 := HP6.out.fz 2; have c3 := HP6.out.cell 3 _ rfl; have f3 := HP6.out.fz 3; have c4 := HP6.out.cell 4 _ rfl; have f4 := HP6.out.fz 4
                have hB6 : Below wy.heap.size wy w6 := Below.trans (((Below.refl wy.heap.size wy).drew).alloc Nat.le.refl (.cells #[.slice none 0 0, .string ⟨#[]⟩, .string ⟨#[]⟩, .slice none 0 0, .slice none 0 0] 41)) (hb6.mono (by simp))
                have hrd2 : RSch.rd (fun k => k < wy.heap.size) w6 ds r := RSch.mono hrd (fun k hk _ => hk.1)
                clear hrd; obtain ⟨_, _, _, rfl, ⟨p5, pc5, rfl, hp5⟩, ⟨t5, tc5, rfl, ht5⟩, ⟨q5, qc5, rfl, hq5⟩⟩ := hrd2
                have hRd6 : RSch.rd (fun k => k < wy.heap.size) w6 [.slice p5 r.params.length pc5, .string r.result.elem, .string r.result.shape.row, .slice t5 r.result.shape.dims.length tc5, .slice q5 r.wh.length qc5] r := ⟨_, _, _, rfl, ⟨p5, pc5, rfl, hp5⟩, ⟨t5, tc5, rfl, ht5⟩, ⟨q5, qc5, rfl, hq5⟩⟩
                clear hp5 ht5 hq5; have b0 := kAC x0 _ hB6; have b1 := kAC x1 _ hB6; have b2 := kAC xn _ hB6
                ))
            all_goals
             have HRd6 := hJ hRd6; have HFs6 := hJ hfs; have HBB := hJ hB6; have hz6 := hB6.size; clear hRd6 hfs hb6 b0 b1 b2 x0 x1 xn hB6
             go_wp2_with fail
             go_meet
            · exact ⟨w6.heap.size, r, ok, p5, pc5, t5, tc5, q5, qc5, rfl, rfl, hz6, hJ (Bx.fresh w6 _ _), HFs6, hJ (RSch.below HRd6.out ((Below.refl _ _).alloc (Nat.le_refl _) _)), hJ (HBB.out.alloc hz6 _)⟩
            · have hq := put5 (B := wy.heap.size) (g := wy.heap.size) (.slice p5 r.params.length pc5) (.string r.result.elem) (.string r.result.shape.row) (.slice t5 r.result.shape.dims.length tc5) (.slice q5 r.wh.length qc5) HP6.out HRd6.out (fun k hk hlt => by omega) HBB.out (Nat.le_refl _)
              exact ⟨wy.heap.size, r, ok, p5, pc5, t5, tc5, q5, qc5, rfl, rfl, Nat.le_refl _, hq.1, HFs6, hJ (RSch.mono hq.2.2.1.out (fun k hk _ => hk.1)), hq.2.2.2⟩
           case rest =>
            obtain ⟨g7, r7, ok7, p7, pc7, t7, tc7, q7, qc7, rfl, rfl, hg7, HP7, HF7, HR7, HB7⟩ := hcut; obtain ⟨rfl, rfl⟩ := finds_uniq HF6.out HF7.out; have HP6c := hJ (HP6.out.below HB7.out HP6.out.lt); have hrl := finds_few HF6.out HFw.out; have HEs := kD9 (RSch.below HR6.out HB7.out) HR7.out hrl hrl; rw [(eqSch_iff r6 r6).2 rfl] at HEs; have HEs := hJ HEs; have HBc := hJ (hB.trans ((HB6.out.trans (HB7.out.mono hz6)).mono hzx)); have m0 := HP6c.out.cell 0 _ rfl; have m1 := HP6c.out.cell 1 _ rfl; have m2 := HP6c.out.cell 2 _ rfl; have m3 := HP6c.out.cell 3 _ rfl; have m4 := HP6c.out.cell 4 _ rfl; have l0 := HP7.out.cell 0 _ rfl; have l1 := HP7.out.cell 1 _ rfl; have l2 := HP7.out.cell 2 _ rfl; have l3 := HP7.out.cell 3 _ rfl; have l4 := HP7.out.cell 4 _ rfl
            have hoo : (ok6 != ok6) = false := bne_self_eq_false _
            clear x0 x1 xn HFd hg6 hg7 HF6 HF7 HP6 HR6 HR7 HSy hrl
            go_wp2_with fail
            refine HEs.out.mono ?_
            rintro e w8 ⟨rfl, hb8⟩
            have hz8' := HBc.out.size; clear m0 m1 m2 m3 m4 l0 l1 l2 l3 l4
            go_wp2_with fail
            go_roundw
            case rel => exact ⟨j + 1, by omega, by go_num, HBc.out.trans (hb8.mono hz8')⟩
            case measure => simp [intOf]; omega
        · obtain rfl : j = n2 := by omega
          go_wp2_with fail
          go_ret
          exact ⟨rfl, HWc.out.trans (hB.mono HWc.out.size)⟩
open Go.RowKit Go.ChangeShapes Go.WideShapes Go.Deep
section
variable {H : Type} {enc : TypeId × Value → H} {w : World} {base : Nat} {spare : Nat → Bool} {held : Bool}
theorem bulk_part {d : DataW H} {l : List (DataW H)} (h : d ∈ l) : Rows.uptoBulk d ≤ Rows.uptoBulkAll l := by
 induction l with
 | nil => cases h
 | cons x r ih =>
   simp only [Rows.uptoBulkAll]
   cases List.mem_cons.1 h with
   | inl e => subst e; omega
   | inr e => have := ih e; omega
theorem bulk_two : ∀ (l : List (DataW H)), (∀ d ∈ l, 2 ≤ Rows.uptoBulk d) → l.length * 2 ≤ Rows.uptoBulkAll l
 | [], _ => Nat.zero_le _
 | d :: l, h => by
   have h1 := h d (List.mem_cons_self ..)
   have h2 := bulk_two l (fun x hx => h x (List.mem_cons_of_mem _ hx))
   simp only [Rows.uptoBulkAll, List.length_cons]
   omega
theorem bulk_slice (elems spare : List (DataW H)) : Rows.uptoBulkAll elems ≤ Rows.uptoBulk (.slice elems spare) := by simp only [Rows.uptoBulk]; omega
theorem bulk_agg (parts : List (DataW H)) : Rows.uptoBulkAll parts ≤ Rows.uptoBulk (.agg parts) := by simp only [Rows.uptoBulk]; omega
theorem pickL {α : Type} [Inhabited α] : ∀ (n : Nat) (P : Nat → α → Prop), (∀ i, i < n → ∃ y, P i y) → ∃ l : List α, l.length = n ∧ ∀ i y, l[i]? = some y → P i y
 | 0, P, _ => ⟨[], rfl, fun i y h => by simp at h⟩
 | n + 1, P, h => by
   obtain ⟨y0, h0⟩ := h 0 (by omega)
   obtain ⟨l, hl, hp⟩ := pickL n (fun i y => P (i + 1) y) (fun i hi => h (i + 1) (by omega))
   refine ⟨y0 :: l, by rw [List.length_cons, hl], fun i y hy => ?_⟩
   cases i with
   | zero => simp at hy; subst hy; exact h0
   | succ i => exact hp i y (by simpa using hy)
theorem open_sl {α : Type} [Inhabited α] {R : Rep α} {Good : α → Prop} {t e : TypeId} {fuel : Nat} {cs : List Value} {x : DataW H × List MemPlace} {B : Nat} (ht : Tryz.prog.underlying t = some (.slice e)) (hC : Tryz.prog.cellsOf e = R.size)
 (step : ∀ (n : Nat) (cs' : List Value) (z : DataW H × List MemPlace), DataW.trod enc Tryz.prog w base spare held n e cs' = some z → Rows.uptoBulk z.1 ≤ B → (∃ y, R.rd All w cs' y ∧ Good y) ∧ 2 ≤ Rows.uptoBulk z.1)
 (h : DataW.trod enc Tryz.prog w base spare held fuel t cs = some x) (hB : Rows.uptoBulk x.1 ≤ B) :
 ∃ (a : Option Addr) (n c : Nat) (l : List α), cs = [.slice a n c] ∧ Sl R All w a n c l ∧ (∀ y ∈ l, Good y) ∧ l.length * 2 ≤ B := by
 rcases open_slice ht h with ⟨rfl, rfl⟩ | ⟨a, len, cap, m, n, D, Pl, rfl, hb, hl, hm, hmm, rfl, hi⟩
 · exact ⟨none, 0, 0, [], rfl, Sl.empty _ _ _, fun y hy => absurd hy (List.not_mem_nil), Nat.zero_le _⟩
 · have hle : len ≤ m := by rw [hmm]; split <;> omega
   have hbk := bulk_slice ((List.range len).map D) ((List.range (m - len)).map fun j => D (len + j))
   have hD : ∀ i, i < len → Rows.uptoBulk (D i) ≤ B := fun i hi' => Nat.le_trans (bulk_part (List.mem_map.2 ⟨i, List.mem_range.2 hi', rfl⟩)) (Nat.le_trans hbk hB)
   rw [hC] at hi
   have hstep : ∀ i, i < len → (∃ y cs', R.rd All w cs' y ∧ Good y ∧ ∀ j u, cs'[j]? = some u → w.cell? (a.add (i * R.size + j)) = some u) ∧ 2 ≤ Rows.uptoBulk (D i) := fun i hi' => by
    obtain ⟨cs', hcs, htr⟩ := hi i (by omega)
    obtain ⟨⟨y, hy, hg⟩, h2⟩ := step n cs' _ htr (hD i hi'); obtain ⟨_, hlen, hat⟩ := World.cells?_some hcs
    refine ⟨⟨y, cs', hy, hg, fun j u hu => ?_⟩, h2⟩
    have hj : j < R.size := by
     rcases Nat.lt_or_ge j cs'.length with q | q
     · omega
     · rw [List.getElem?_eq_none q] at hu; cases hu
    rw [← Go.Deep.add_add, hat j hj, hu]
   obtain ⟨l, hll, hp⟩ := pickL len (fun i y => ∃ cs', R.rd All w cs' y ∧ Good y ∧ ∀ j u, cs'[j]? = some u → w.cell? (a.add (i * R.size + j)) = some u) (fun i hi' => (hstep i hi').1)
   refine ⟨some a, len, cap, l, rfl, ⟨hll, hl, hm, by intro h; (cases h), fun i y hy => ?_⟩, fun y hy => ?_, ?_⟩
   · obtain ⟨cs', hr, hg, hc⟩ := hp i y hy
     have hlt : i < len := by
      rcases Nat.lt_or_ge i l.length with q | q
      · omega
      · rw [List.getElem?_eq_none q] at hy; cases hy
     obtain ⟨y0, cs0, hr0, _, hc0⟩ := (hstep 0 (by omega)).1
     have hl0 := R.len hr0; have hpos := R.pos
     have h00 := hc0 0 _ (List.getElem?_eq_getElem (show 0 < cs0.length by omega))
     rw [Nat.zero_mul, Nat.zero_add] at h00; obtain ⟨b, off, sp⟩ := a
     have hsp : sp = none := by
      cases sp with
      | none => rfl
      | some k =>
        have : w.cell? (Addr.add ⟨b, off, some k⟩ 0) = none := by
         show w.cell? ⟨b, off, some k⟩ = none
         unfold World.cell?
         cases w.heap[b]? with
         | none => rfl
         | some o => cases o <;> rfl
        rw [this] at h00; cases h00
     subst hsp
     exact ⟨b, off, cs', rfl, trivial, hr, fun j u hu => by have := hc j u hu; rwa [kG2] at this⟩
   · obtain ⟨i, hi', rfl⟩ := List.getElem_of_mem hy
     obtain ⟨_, _, hg, _⟩ := hp i _ (List.getElem?_eq_getElem hi')
     exact hg
   · have h2 := bulk_two ((List.range len).map D) (fun d hd => by
      obtain ⟨i, hi', rfl⟩ := List.mem_map.1 hd
      exact (hstep i (List.mem_range.1 hi')).2)
     rw [List.length_map, List.length_range] at h2; have h3 := Nat.le_trans hbk hB
     omega
def gC (B : Nat) (y : Coef) : Prop := y.v.size ≤ B
def gL (B : Nat) (y : Lin) : Prop := ∀ t ∈ y.terms, gC B t
def gT (B : Nat) (y : Typ) : Prop := y.elem.size ≤ B ∧ y.shape.row.size ≤ B ∧ ∀ d ∈ y.shape.dims, gL B d
def gS (B : Nat) (y : Sch) : Prop := (∀ t ∈ y.params, gT B t) ∧ gT B y.result ∧ (∀ d ∈ y.wh, gL B d) ∧ y.params.length * 2 ≤ B
def gE (B : Nat) (y : Ent) : Prop := y.name.size ≤ B ∧ gS B y.scheme
theorem bulk_str {s : Str} : Rows.uptoBulk (DataW.lit (H := H) (.string s.data.toList)) = s.size + 1 := by
 simp [Rows.uptoBulk]
theorem open_coef {B n : Nat} {cs : List Value} {z : DataW H × List MemPlace} (h : DataW.trod enc Tryz.prog w base spare held n 62 cs = some z) (hB : Rows.uptoBulk z.1 ≤ B) : (∃ y, kBP.rd All w cs y ∧ gC B y) ∧ 2 ≤ Rows.uptoBulk z.1 := by
 obtain ⟨xs, m, rfl, rfl, hl, hx, hf⟩ := DataW.trod_struct underlying62 h; have h0 := hf 0 _ rfl; have h1 := hf 1 _ rfl
 obtain ⟨x0, x1, rfl⟩ : ∃ x0 x1, xs = [x0, x1] := by
  match xs, hx with
  | [x0, x1], _ => exact ⟨x0, x1, rfl⟩
 obtain ⟨c0, c1, rfl⟩ : ∃ c0 c1, cs = [c0, c1] := by
  have hl : cs.length = 2 := hl.trans (by kernel_rfl)
  match cs, hl with
  | [c0, c1], _ => exact ⟨c0, c1, rfl⟩
 obtain ⟨s, e0, rfl, hs⟩ := DataW.trod_string underlying9 (show DataW.trod enc Tryz.prog w base spare held m 9 [c0] = some x0 from h0)
 obtain ⟨k, e1, rfl, hk⟩ := DataW.trod_int underlying3 (show DataW.trod enc Tryz.prog w base spare held m 3 [c1] = some x1 from h1)
 cases e0
 cases e1
 have hb := bulk_agg ([(DataW.lit (.string s.data.toList) : DataW H), .lit (.int .i64 k)])
 have hq : Rows.uptoBulkAll ([(DataW.lit (.string s.data.toList) : DataW H), .lit (.int .i64 k)]) = s.size + 1 + (1 + 0) := by
  simp only [Rows.uptoBulkAll, bulk_str]; rfl
 have hB : Rows.uptoBulk (DataW.agg [(DataW.lit (.string s.data.toList) : DataW H), .lit (.int .i64 k)]) ≤ B := hB
 refine ⟨⟨⟨s, k⟩, rfl, by show s.size ≤ B; omega⟩, ?_⟩
 show 2 ≤ Rows.uptoBulk (DataW.agg [(DataW.lit (.string s.data.toList) : DataW H), .lit (.int .i64 k)])
 omega
theorem bulk_pos (d : DataW H) : 1 ≤ Rows.uptoBulk d := by
 cases d with
 | lit l => cases l <;> simp [Rows.uptoBulk]
 | nil => simp [Rows.uptoBulk]
 | ptr d => simp [Rows.uptoBulk]
 | slice elems spare => simp [Rows.uptoBulk]
 | agg parts => simp [Rows.uptoBulk]
 | iface t d => simp [Rows.uptoBulk]
 | map entries => simp [Rows.uptoBulk]
 | held h => simp [Rows.uptoBulk]
theorem agg_two (d : DataW H) (l : List (DataW H)) : 2 ≤ Rows.uptoBulk (.agg (d :: l)) := by
 have h := bulk_pos d
 simp only [Rows.uptoBulk, Rows.uptoBulkAll]
 omega
theorem kCI {d : DataW H} {l : List (DataW H)} {B : Nat} (h : Rows.uptoBulk (.agg l) ≤ B) (hd : d ∈ l) : Rows.uptoBulk d ≤ B := Nat.le_trans (bulk_part hd) (Nat.le_trans (bulk_agg l) h)
theorem open_str {B m : Nat} {c : Value} {x : DataW H × List MemPlace} (h : DataW.trod enc Tryz.prog w base spare held m 9 [c] = some x) (hB : Rows.uptoBulk x.1 ≤ B) : ∃ s : Str, c = .string s ∧ s.size ≤ B := by
 obtain ⟨s, e0, rfl, hs⟩ := DataW.trod_string underlying9 h
 cases e0
 have hB : Rows.uptoBulk (DataW.lit (H := H) (.string s.data.toList)) ≤ B := hB
 rw [bulk_str] at hB
 exact ⟨s, rfl, by omega⟩
theorem two_of {α : Type} {l : List α} (h : l.length = 2) : ∃ a b, l = [a, b] := by
 match l, h with
 | [a, b], _ => exact ⟨a, b, rfl⟩
theorem three_of {α : Type} {l : List α} (h : l.length = 3) : ∃ a b c, l = [a, b, c] := by
 match l, h with
 | [a, b, c], _ => exact ⟨a, b, c, rfl⟩
theorem five_of {α : Type} {l : List α} (h : l.length = 5) : ∃ a b c d e, l = [a, b, c, d, e] := by
 match l, h with
 | [a, b, c, d, e], _ => exact ⟨a, b, c, d, e, rfl⟩
theorem six_of {α : Type} {l : List α} (h : l.length = 6) : ∃ a b c d e f, l = [a, b, c, d, e, f] := by
 match l, h with
 | [a, b, c, d, e, f], _ => exact ⟨a, b, c, d, e, f, rfl⟩
theorem open_lin {B n : Nat} {cs : List Value} {z : DataW H × List MemPlace} (h : DataW.trod enc Tryz.prog w base spare held n 65 cs = some z) (hB : Rows.uptoBulk z.1 ≤ B) : (∃ y, RLin.rd All w cs y ∧ gL B y) ∧ 2 ≤ Rows.uptoBulk z.1 := by
 obtain ⟨xs, m, rfl, rfl, hl, hx, hf⟩ := DataW.trod_struct underlying65 h; obtain ⟨x0, x1, rfl⟩ := two_of hx
 obtain ⟨c0, c1, rfl⟩ := two_of (hl.trans (by kernel_rfl))
 have hB : Rows.uptoBulk (.agg [x0.1, x1.1]) ≤ B := hB
 obtain ⟨k, e0, _, _⟩ := DataW.trod_int underlying3 (show DataW.trod enc Tryz.prog w base spare held m 3 [c0] = some x0 from hf 0 _ rfl)
 cases e0
 obtain ⟨a, n, c, l, e1, hs, hg, _⟩ := open_sl (R := kBP) (Good := gC B) underlying63 (by kernel_rfl) (fun n cs' z h hb => open_coef h hb) (show DataW.trod enc Tryz.prog w base spare held m 63 [c1] = some x1 from hf 1 _ rfl) (kCI hB (by simp))
 cases e1
 obtain rfl := hs.len
 exact ⟨⟨⟨k, l⟩, ⟨_, rfl, a, c, rfl, hs⟩, hg⟩, agg_two _ _⟩
theorem open_shp {B n : Nat} {cs : List Value} {z : DataW H × List MemPlace} (h : DataW.trod enc Tryz.prog w base spare held n 37 cs = some z) (hB : Rows.uptoBulk z.1 ≤ B) : ∃ y : Shp, RShp.rd All w cs y ∧ y.row.size ≤ B ∧ ∀ d ∈ y.dims, gL B d := by
 obtain ⟨xs, m, rfl, rfl, hl, hx, hf⟩ := DataW.trod_struct underlying37 h; obtain ⟨x0, x1, rfl⟩ := two_of hx
 obtain ⟨c0, c1, rfl⟩ := two_of (hl.trans (by kernel_rfl))
 have hB : Rows.uptoBulk (.agg [x0.1, x1.1]) ≤ B := hB
 obtain ⟨s, rfl, hs0⟩ := open_str (show DataW.trod enc Tryz.prog w base spare held m 9 [c0] = some x0 from hf 0 _ rfl) (kCI hB (by simp))
 obtain ⟨a, n, c, l, e1, hs, hg, _⟩ := open_sl (R := RLin) (Good := gL B) underlying35 (by kernel_rfl) (fun n cs' z h hb => open_lin h hb) (show DataW.trod enc Tryz.prog w base spare held m 35 [c1] = some x1 from hf 1 _ rfl) (kCI hB (by simp))
 cases e1
 obtain rfl := hs.len
 exact ⟨⟨s, l⟩, ⟨_, rfl, a, c, rfl, hs⟩, hs0, hg⟩
theorem open_typ {B n : Nat} {cs : List Value} {z : DataW H × List MemPlace} (h : DataW.trod enc Tryz.prog w base spare held n 39 cs = some z) (hB : Rows.uptoBulk z.1 ≤ B) : (∃ y, RTyp.rd All w cs y ∧ gT B y) ∧ 2 ≤ Rows.uptoBulk z.1 := by
 obtain ⟨xs, m, rfl, rfl, hl, hx, hf⟩ := DataW.trod_struct underlying39 h; obtain ⟨x0, x1, rfl⟩ := two_of hx
 obtain ⟨c0, c1, c2, rfl⟩ := three_of (hl.trans (by kernel_rfl))
 have hB : Rows.uptoBulk (.agg [x0.1, x1.1]) ≤ B := hB
 obtain ⟨s, rfl, hs0⟩ := open_str (show DataW.trod enc Tryz.prog w base spare held m 9 [c0] = some x0 from hf 0 _ rfl) (kCI hB (by simp))
 have h1 := hf 1 _ rfl
 obtain ⟨y, ⟨t, e, ht⟩, hy1, hy2⟩ := open_shp (show DataW.trod enc Tryz.prog w base spare held m 37 [c1, c2] = some x1 from h1) (kCI hB (by simp))
 cases e
 exact ⟨⟨⟨s, y⟩, ⟨_, rfl, ht⟩, hs0, hy1, hy2⟩, agg_two _ _⟩
theorem open_sch {B n : Nat} {cs : List Value} {z : DataW H × List MemPlace} (h : DataW.trod enc Tryz.prog w base spare held n 41 cs = some z) (hB : Rows.uptoBulk z.1 ≤ B) : ∃ y, RSch.rd All w cs y ∧ gS B y := by
 obtain ⟨xs, m, rfl, rfl, hl, hx, hf⟩ := DataW.trod_struct underlying41 h; obtain ⟨x0, x1, x2, rfl⟩ := three_of hx
 obtain ⟨c0, c1, c2, c3, c4, rfl⟩ := five_of (hl.trans (by kernel_rfl))
 have hB : Rows.uptoBulk (.agg [x0.1, x1.1, x2.1]) ≤ B := hB
 obtain ⟨a, n, c, l, e1, hs, hg, hln⟩ := open_sl (R := RTyp) (Good := gT B) underlying34 (by kernel_rfl) (fun n cs' z h hb => open_typ h hb) (show DataW.trod enc Tryz.prog w base spare held m 34 [c0] = some x0 from hf 0 _ rfl) (kCI hB (by simp))
 cases e1
 obtain rfl := hs.len; have h1 := hf 1 _ rfl
 obtain ⟨⟨y, ⟨t, e, ht⟩, hy⟩, _⟩ := open_typ (show DataW.trod enc Tryz.prog w base spare held m 39 [c1, c2, c3] = some x1 from h1) (kCI hB (by simp))
 cases e
 obtain ⟨a2, n2, c5, l2, e2, hs2, hg2, _⟩ := open_sl (R := RLin) (Good := gL B) underlying35 (by kernel_rfl) (fun n cs' z h hb => open_lin h hb) (show DataW.trod enc Tryz.prog w base spare held m 35 [c4] = some x2 from hf 2 _ rfl) (kCI hB (by simp))
 cases e2
 obtain rfl := hs2.len
 exact ⟨⟨l, y, l2⟩, ⟨_, _, _, rfl, ⟨a, c, rfl, hs⟩, ht, ⟨a2, c5, rfl, hs2⟩⟩, hg, hy, hg2, hln⟩
theorem open_ent {B n : Nat} {cs : List Value} {z : DataW H × List MemPlace} (h : DataW.trod enc Tryz.prog w base spare held n 44 cs = some z) (hB : Rows.uptoBulk z.1 ≤ B) : (∃ y, REnt.rd All w cs y ∧ gE B y) ∧ 2 ≤ Rows.uptoBulk z.1 := by
 obtain ⟨xs, m, rfl, rfl, hl, hx, hf⟩ := DataW.trod_struct underlying44 h; obtain ⟨x0, x1, rfl⟩ := two_of hx
 obtain ⟨c0, c1, c2, c3, c4, c5, rfl⟩ := six_of (hl.trans (by kernel_rfl))
 have hB : Rows.uptoBulk (.agg [x0.1, x1.1]) ≤ B := hB
 obtain ⟨s, rfl, hs0⟩ := open_str (show DataW.trod enc Tryz.prog w base spare held m 9 [c0] = some x0 from hf 0 _ rfl) (kCI hB (by simp))
 have h1 := hf 1 _ rfl
 obtain ⟨y, hy, hg⟩ := open_sch (show DataW.trod enc Tryz.prog w base spare held m 41 [c1, c2, c3, c4, c5] = some x1 from h1) (kCI hB (by simp))
 exact ⟨⟨⟨s, y⟩, ⟨_, rfl, hy⟩, hs0, hg⟩, agg_two _ _⟩
theorem open_ifc {B n : Nat} {cs : List Value} {z : DataW H × List MemPlace} (h : DataW.trod enc Tryz.prog w base spare held n 24 cs = some z) (hB : Rows.uptoBulk z.1 ≤ B) : ∃ (i : Ifc) (a : Option Addr) (k c : Nat), cs = [.string i.module_, .slice a k c] ∧ Sl REnt All w a k c i.entries ∧ i.module_.size ≤ B ∧ ∀ e ∈ i.entries, gE B e := by
 obtain ⟨xs, m, rfl, rfl, hl, hx, hf⟩ := DataW.trod_struct underlying24 h; obtain ⟨x0, x1, rfl⟩ := two_of hx
 obtain ⟨c0, c1, rfl⟩ := two_of (hl.trans (by kernel_rfl))
 have hB : Rows.uptoBulk (.agg [x0.1, x1.1]) ≤ B := hB
 obtain ⟨s, rfl, hs0⟩ := open_str (show DataW.trod enc Tryz.prog w base spare held m 9 [c0] = some x0 from hf 0 _ rfl) (kCI hB (by simp))
 obtain ⟨a, n, c, l, e1, hs, hg, _⟩ := open_sl (R := REnt) (Good := gE B) underlying22 (by kernel_rfl) (fun n cs' z h hb => open_ent h hb) (show DataW.trod enc Tryz.prog w base spare held m 22 [c1] = some x1 from hf 1 _ rfl) (kCI hB (by simp))
 cases e1
 exact ⟨⟨s, l⟩, a, n, c, rfl, hs, hs0, hg⟩
theorem gL_big {B : Nat} (hB : B ≤ 2000000) {y : Lin} (h : gL B y) : bigL y ∧ szL y := ⟨fun t ht => Nat.le_trans (h t ht) (by omega), fun t ht => Nat.le_trans (h t ht) hB⟩
theorem gE_big {B : Nat} (hB : B ≤ 2000000) {e : Ent} (h : gE B e) : bigE e ∧ ∀ y ∈ e.scheme.wh, szL y := by
 obtain ⟨h1, h2, h3, h4, h5⟩ := h
 have hT : ∀ t, gT B t → bigT t := fun t q => ⟨fun d hd => (gL_big hB (q.2.2 d hd)).1, Nat.le_trans q.2.1 (by omega), Nat.le_trans q.1 (by omega)⟩
 refine ⟨⟨⟨fun t ht => ?_, fun y hy => (gL_big hB (h4 y hy)).1, by omega⟩, Nat.le_trans h1 (by omega)⟩, fun y hy => (gL_big hB (h4 y hy)).2⟩
 unfold allT at ht
 rcases List.mem_append.1 ht with q | q
 · exact hT t (h2 t q)
 · rw [List.mem_singleton] at q; subst q; exact hT _ h3
end
open Go.RowKit Go.ChangeShapes Go.WideShapes Go.Deep
section
variable {H : Type} {enc : TypeId × Value → H} {w : World} {base : Nat} {spare : Nat → Bool} {held : Bool}
theorem open_slF {α : Type} [Inhabited α] {R : Rep α} {Good : α → Prop} {t e : TypeId} {fuel : Nat} {cs : List Value} {x : DataW H × List MemPlace} {B : Nat} (ht : Tryz.prog.underlying t = some (.slice e)) (hC : Tryz.prog.cellsOf e = R.size)
 (step : ∀ (n : Nat) (cs' : List Value) (z : DataW H × List MemPlace), DataW.trod enc Tryz.prog w base spare held n e cs' = some z → Rows.uptoBulk z.1 ≤ B → ∃ y, R.rd All w cs' y ∧ Good y)
 (h : DataW.trod enc Tryz.prog w base spare held fuel t cs = some x) (hB : Rows.uptoBulk x.1 ≤ B) :
 ∃ (a : Option Addr) (n c : Nat) (l : List α), cs = [.slice a n c] ∧ Sl R All w a n c l ∧ ∀ y ∈ l, Good y := by
 rcases open_slice ht h with ⟨rfl, rfl⟩ | ⟨a, len, cap, m, n, D, Pl, rfl, hb, hl, hm, hmm, rfl, hi⟩
 · exact ⟨none, 0, 0, [], rfl, Sl.empty _ _ _, fun y hy => absurd hy (List.not_mem_nil)⟩
 · have hle : len ≤ m := by rw [hmm]; split <;> omega
   have hbk := bulk_slice ((List.range len).map D) ((List.range (m - len)).map fun j => D (len + j))
   have hD : ∀ i, i < len → Rows.uptoBulk (D i) ≤ B := fun i hi' => Nat.le_trans (bulk_part (List.mem_map.2 ⟨i, List.mem_range.2 hi', rfl⟩)) (Nat.le_trans hbk hB)
   rw [hC] at hi
   have hstep : ∀ i, i < len → ∃ y cs', R.rd All w cs' y ∧ Good y ∧ ∀ j u, cs'[j]? = some u → w.cell? (a.add (i * R.size + j)) = some u := fun i hi' => by
    obtain ⟨cs', hcs, htr⟩ := hi i (by omega)
    obtain ⟨y, hy, hg⟩ := step n cs' _ htr (hD i hi'); obtain ⟨_, hlen, hat⟩ := World.cells?_some hcs
    refine ⟨y, cs', hy, hg, fun j u hu => ?_⟩
    have hj : j < R.size := by
     rcases Nat.lt_or_ge j cs'.length with q | q
     · omega
     · rw [List.getElem?_eq_none q] at hu; cases hu
    rw [← Go.Deep.add_add, hat j hj, hu]
   obtain ⟨l, hll, hp⟩ := pickL len (fun i y => ∃ cs', R.rd All w cs' y ∧ Good y ∧ ∀ j u, cs'[j]? = some u → w.cell? (a.add (i * R.size + j)) = some u) (fun i hi' => hstep i hi')
   refine ⟨some a, len, cap, l, rfl, ⟨hll, hl, hm, by intro h; (cases h), fun i y hy => ?_⟩, fun y hy => ?_⟩
   · obtain ⟨cs', hr, hg, hc⟩ := hp i y hy
     have hlt : i < len := by
      rcases Nat.lt_or_ge i l.length with q | q
      · omega
      · rw [List.getElem?_eq_none q] at hy; cases hy
     obtain ⟨y0, cs0, hr0, _, hc0⟩ := hstep 0 (by omega)
     have hl0 := R.len hr0; have hpos := R.pos
     have h00 := hc0 0 _ (List.getElem?_eq_getElem (show 0 < cs0.length by omega))
     rw [Nat.zero_mul, Nat.zero_add] at h00; obtain ⟨b, off, sp⟩ := a
     have hsp : sp = none := by
      cases sp with
      | none => rfl
      | some k =>
        have : w.cell? (Addr.add ⟨b, off, some k⟩ 0) = none := by
         show w.cell? ⟨b, off, some k⟩ = none
         unfold World.cell?
         cases w.heap[b]? with
         | none => rfl
         | some o => cases o <;> rfl
        rw [this] at h00; cases h00
     subst hsp
     exact ⟨b, off, cs', rfl, trivial, hr, fun j u hu => by have := hc j u hu; rwa [kG2] at this⟩
   · obtain ⟨i, hi', rfl⟩ := List.getElem_of_mem hy
     obtain ⟨_, _, hg, _⟩ := hp i _ (List.getElem?_eq_getElem hi')
     exact hg
theorem open_names {B n : Nat} {cs : List Value} {x : DataW H × List MemPlace} (h : DataW.trod enc Tryz.prog w base spare held n 51 cs = some x) (hB : Rows.uptoBulk x.1 ≤ B) : ∃ (a : Option Addr) (k c : Nat) (l : List Str), cs = [.slice a k c] ∧ Sl RStr All w a k c l ∧ ∀ s ∈ l, s.size ≤ B :=
 open_slF (R := RStr) (Good := fun s => s.size ≤ B) underlying51 (by kernel_rfl) (fun n cs' z h hb => by
  obtain ⟨s, e0, rfl, hs⟩ := DataW.trod_string underlying9 h
  have hb : Rows.uptoBulk (DataW.lit (H := H) (.string s.data.toList)) ≤ B := hb
  rw [bulk_str] at hb
  exact ⟨s, e0, by omega⟩) h hB
end
end Go.Proofs.YtjongcdlginjlaaGreatDoor
