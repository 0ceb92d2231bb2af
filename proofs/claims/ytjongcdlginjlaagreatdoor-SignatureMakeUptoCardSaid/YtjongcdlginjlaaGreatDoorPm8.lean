/- The claim's texts, part 8: contracts of the functions that the statement reaches, and what they say of the data. -/
import Derived.Test.YtjongcdlginjlaaGreatDoorPm7
set_option maxRecDepth 100000
set_option maxHeartbeats 8000000
set_option linter.all false
namespace Go.Proofs.YtjongcdlginjlaaGreatDoor
open Go.Proofs.Tryz
open Go.RowKit
def kBL (b : List Bnd) (s : Sch) : Sch := if kBN b s then kCF b s else kCQ
def kB7 (b : List Bnd) (s : Sch) : Int := if kBN b s then 0 else 3
theorem sch_no {b : List Bnd} {s : Sch} (h : kBN b s = false) : kBL b s = kCQ ∧ kB7 b s = 3 := by
 unfold kBL kB7
 rw [h]
 exact ⟨rfl, rfl⟩
theorem sch_badP {b : List Bnd} {s : Sch} {i : Nat} (hi : i < s.params.length) (h : kA5 b (s.params.getD i default).shape = false) : kBL b s = kCQ ∧ kB7 b s = 3 := sch_no (by
 have : s.params.all (fun t => kA5 b t.shape) = false := List.all_eq_false.2 ⟨_, kAI hi, by rw [h]; decide⟩
 unfold kBN
 rw [this]; simp)
theorem sch_badR {b : List Bnd} {s : Sch} (h : kA5 b s.result.shape = false) : kBL b s = kCQ ∧ kB7 b s = 3 := sch_no (by
 unfold kBN
 rw [h]; simp)
theorem sch_badW {b : List Bnd} {s : Sch} {i : Nat} (hi : i < s.wh.length) (h : kAD (kAF b (s.wh.getD i default)) = false) : kBL b s = kCQ ∧ kB7 b s = 3 := sch_no (by
 have : s.wh.all (fun x => kAD (kAF b x)) = false := List.all_eq_false.2 ⟨_, kAI hi, by rw [h]; decide⟩
 unfold kBN
 rw [this]; simp)
theorem all_getD {α : Type} [Inhabited α] {l : List α} {p : α → Bool} (h : ∀ i, i < l.length → p (l.getD i default) = true) : l.all p = true := by
 rw [List.all_eq_true]
 intro x hx
 obtain ⟨i, hi, e⟩ := List.getElem_of_mem hx
 have := h i hi
 rw [List.getD_eq_getElem?_getD, List.getElem?_eq_getElem hi] at this
 rw [← e]; exact this
theorem sch_good {b : List Bnd} {s : Sch} (hv : kAJ s = true) (hb : kBG b = true) (h1 : ∀ i, i < s.params.length → kA5 b (s.params.getD i default).shape = true) (h2 : kA5 b s.result.shape = true) (h3 : ∀ i, i < s.wh.length → kAD (kAF b (s.wh.getD i default)) = true) : kBL b s = kCF b s ∧ kB7 b s = 0 := by
 have : kBN b s = true := by
  unfold kBN
  rw [hv, hb, all_getD (p := fun t : Typ => kA5 b t.shape) h1, h2, all_getD (p := fun x => kAD (kAF b x)) h3]; rfl
 unfold kBL kB7
 rw [this]
 exact ⟨rfl, rfl⟩
theorem Bx.other3 {w : World} {g g' : Nat} {E : TypeId} {cs : List Value} (h : Bx w g E cs) (hne : g' ≠ g) (a b c : Value) : Bx (((w.setCell ⟨g', 0, none⟩ a).setCell ⟨g', 1, none⟩ b).setCell ⟨g', 2, none⟩ c) g E cs := ((h.other hne).other hne).other hne
theorem Bx.other2 {w : World} {g g' : Nat} {E : TypeId} {cs : List Value} (h : Bx w g E cs) (hne : g' ≠ g) (a b : Value) : Bx ((w.setCell ⟨g', 0, none⟩ a).setCell ⟨g', 1, none⟩ b) g E cs := (h.other hne).other hne
def kDP (B : Nat) (w : World) (ds : List Value) (s : Sch) : Prop := ∃ base p t q, B ≤ base ∧ ds = [p, .string s.result.elem, .string s.result.shape.row, t, q] ∧ SlV RTyp (fun k => B ≤ k ∧ k < base) w p s.params ∧ SlV RLin (fun k => B ≤ k ∧ k < base) w t s.result.shape.dims ∧ Own RLin 65 (fun k => base ≤ k) w base q s.wh
theorem kDP.no (B : Nat) (w : World) : kDP B w [.slice none 0 0, .string ⟨#[]⟩, .string ⟨#[]⟩, .slice none 0 0, .slice none 0 0] kCQ :=
 ⟨B, _, _, _, Nat.le_refl _, rfl, ⟨none, 0, rfl, Sl.empty _ _ _⟩, ⟨none, 0, rfl, Sl.empty _ _ _⟩, Own.nil _ _ _ _ _⟩
theorem kDP.rd {B : Nat} {w : World} {ds : List Value} {s : Sch} (h : kDP B w ds s) : RSch.rd (fun k => B ≤ k) w ds s := by
 obtain ⟨base, p, t, q, hb, rfl, h1, h2, h3⟩ := h; obtain ⟨a, c, rfl, h4⟩ := h3.sl
 exact ⟨p, t, _, rfl, h1.mono (fun k hk _ => hk.1), h2.mono (fun k hk _ => hk.1), ⟨a, c, rfl, h4.mono (fun k hk _ => by have : base ≤ k := hk.elim id id; omega)⟩⟩
theorem types_SubstScheme {S T : Blk} {s : Sch} {cs : List Value} {w : World} (h : RSch.rd S w cs s) (hv : kAJ s = true) (b : List Bnd) (a : Option Addr) (nb cb : Nat) (hbs : Sl RBnd T w a nb cb b) (hb : kBG b = true) (hp : kEZ b) (E : Env w) :
 Calls Tryz.prog 58 #[.agg cs.toArray, .slice a nb cb] w fun e w' => (∃ ds, e = .returned (.tuple #[.agg ds.toArray, .int .i64 (kB7 b s)]) ∧ kDP w.heap.size w' ds (kBL b s)) ∧ Below w.heap.size w w' := by
 have HCV : Hid (∀ W, Below w.heap.size w W → Calls Tryz.prog 36 #[.agg cs.toArray] W fun e w' => e = .returned (.bool true) ∧ Below W.heap.size W w') :=
  hJ (fun W hW => hv ▸ kBX (RSch.below h hW) (sch_sz hv) (E.below hW))
 have HCB : Hid (∀ W, Below w.heap.size w W → Calls Tryz.prog 104 #[.slice a nb cb] W fun e w' => e = .returned (.bool true) ∧ Below W.heap.size W w') :=
  hJ (fun W hW => kDB b a nb cb W (hbs.below hW) hb (E.below hW))
 have EE := hJ E
 have HCT := hJ (fun (W : World) (hW : Below w.heap.size w W) (x : Typ) (ds : List Value) (hx : RTyp.rd S W ds x) (hvx : kAK x = true) => types_Subst hx hvx b a nb cb (hbs.below hW) hb hp (E.below hW))
 have HCL := hJ (fun (W : World) (hW : Below w.heap.size w W) (x : Lin) (ds : List Value) (hx : RLin.rd S W ds x) (hvx : kAD x = true) => kDS hx hvx b a nb cb (hbs.below hW) (kC0 hb) (E.below hW))
 obtain ⟨_, _, _, rfl, ⟨ap, cp, rfl, hps⟩, ⟨ar, cr, rfl, hrs⟩, ⟨aq, cq, rfl, hqs⟩⟩ := h; have HPs := hJ hps; have HRs := hJ hrs; have HQs := hJ hqs; have HV := hJ (kAT hv)
 have HGood := hJ (fun q1 q2 q3 => sch_good (b := b) (s := s) hv hb q1 q2 q3)
 have hpm := hps.small; have hqm := hqs.small; have hp12 := (kAT hv).1; have hq60 := (kAT hv).2.1; clear hps hrs hqs hbs hv hb hp
 generalize hnn : s.params.length = n at *
 generalize hmm : s.wh.length = m at *
 have HN := hJ hnn; have HM := hJ hmm; clear hnn hmm; obtain ⟨B0, ya, yb, hW0⟩ := box2 w 41 [.slice ap n cp, .string s.result.elem, .string s.result.shape.row, .slice ar s.result.shape.dims.length cr, .slice aq m cq] 41 [.slice none 0 0, .string ⟨#[]⟩, .string ⟨#[]⟩, .slice none 0 0, .slice none 0 0]; have xa0 := box0 ya 0 _ rfl; have xa1 := box0 ya 1 _ rfl; have xa2 := box0 ya 2 _ rfl; have xa3 := box0 ya 3 _ rfl; have xa4 := box0 ya 4 _ rfl; have xb0 := box0 yb 0 _ rfl; have xb1 := box0 yb 1 _ rfl; have xb2 := box0 yb 2 _ rfl; have xb3 := box0 yb 3 _ rfl; have xb4 := box0 yb 4 _ rfl
 have bka : Bx _ _ _ _ := ya; have bkb : Bx _ _ _ _ := yb
 clear ya yb; have HA0 := hJ bka; have HR0 := hJ bkb; clear bka bkb
 go_enter func58, ntmps58
 go_wp2_with fail
 refine (HCV.out _ B0.out).mono ?_
 rintro e w1 ⟨rfl, hb1⟩
 have hW1 := B0.out.trans (hb1.mono B0.out.size)
 go_wp2_with fail
 refine (HCB.out _ hW1).mono ?_
 rintro e w2 ⟨rfl, hb2⟩
 have HW := hJ (hW1.trans (hb2.mono hW1.size)); have HA2 := hJ ((HA0.out.below hb1 HA0.out.lt).below hb2 (HA0.out.below hb1 HA0.out.lt).lt); have HR2 := hJ ((HR0.out.below hb1 HR0.out.lt).below hb2 (HR0.out.below hb1 HR0.out.lt).lt); have hlR := HR2.out.lt; have hlA := HA2.out.lt; clear xa0 xa1 xa2 xa3 xa4 xb0 xb1 xb2 xb3 xb4 hb1 hb2 hW1 HR0 HA0 B0 HCV HCB; obtain ⟨w3, hw3⟩ : ∃ q, q = w2.alloc (.cells #[.slice none 0 0, .string ⟨#[]⟩, .string ⟨#[]⟩, .slice none 0 0, .slice none 0 0] 41) := ⟨_, rfl⟩; have hfold := hw3.symm
 have HG3 : Hid (Bx w3 w2.heap.size 41 [.slice none 0 0, .string ⟨#[]⟩, .string ⟨#[]⟩, .slice none 0 0, .slice none 0 0]) := hJ (by rw [hw3]; exact Bx.fresh _ _ _)
 have HB3 : Hid (Below w2.heap.size w2 w3) := hJ (by rw [hw3]; exact (Below.refl _ _).alloc (Nat.le_refl _) _)
 clear hw3; have HA3 := hJ (HA2.out.below HB3.out hlA); have y0 := HA3.out.cell 0 _ rfl; have y1 := HA3.out.cell 1 _ rfl; have y2 := HA3.out.cell 2 _ rfl; have y3 := HA3.out.cell 3 _ rfl; have y4 := HA3.out.cell 4 _ rfl
 go_wp2_with fail
 go_loopw [24] (fun i wr => ∃ (k : Nat) (v0 : Value), k ≤ n ∧ i = .int .i64 k ∧ Hid (∀ j, j < k → kA5 b (s.params.getD j default).shape = true) ∧ Hid (Own RTyp 39 (fun q => w2.heap.size < q) wr (w2.heap.size + 1) v0 ((s.params.take k).map (kAX b))) ∧ Hid (Bx wr w2.heap.size 41 [v0, .string ⟨#[]⟩, .string ⟨#[]⟩, .slice none 0 0, .slice none 0 0]) ∧ Below w2.heap.size w2 wr) (fun i _ => n - (intOf i).toNat)
 case atStart => exact ⟨0, _, Nat.zero_le _, rfl, hJ (fun i hi => absurd hi (by omega)), hJ (Own.nil _ _ _ _ _), HG3, HB3.out⟩
 case round =>
  obtain ⟨k, v0, hk, rfl, HT, HO, HG, hB⟩ := hrel; have HBw := hJ (HW.out.trans (hB.mono HW.out.size)); have HRr := hJ (HR2.out.below hB hlR); have hlG := HG.out.lt; obtain ⟨a0, m0, c0, rfl⟩ := HO.out.shape
  by_cases hlt : k < n
  · obtain ⟨b1, off, rfl, hbW, _⟩ := HPs.out.form k hlt
    obtain ⟨t, hr, ⟨at_, ct, rfl, hts⟩, e0, e1, e2⟩ := (HPs.out.below HBw.out).typ k hlt
    have HK : Hid (k < s.params.length) := hJ (by rw [HN.out]; exact hlt)
    have HNext : Hid ((s.params.take (k + 1)).map (kAX b) = (s.params.take k).map (kAX b) ++ [kAX b (s.params.getD k default)]) := hJ (by rw [kAU HK.out, List.map_append]; rfl)
    have hkl : ((s.params.take k).map (kAX b)).length = k := by rw [List.length_map, List.length_take, HN.out]; omega
    have HBad := hJ (fun q => sch_badP (b := b) HK.out q)
    have HUp := hJ (fun q => upto HT.out (p := fun j => kA5 b (s.params.getD j default).shape = true) q)
    have HXv := hJ (HV.out.2.2.1 _ (kAI HK.out))
    generalize s.params.getD k default = x at *
    generalize (s.params.take k).map (kAX b) = lk at *
    have hA : Below wr.heap.size wr (wr.alloc (.cells #[.string x.elem, .string x.shape.row, .slice at_ x.shape.dims.length ct] 39)) := (Below.refl _ _).alloc (Nat.le_refl _) _
    have HCx := hJ (HCT.out _ (HBw.out.trans (hA.mono HBw.out.size)) x _ (RTyp.below hr hA) HXv.out); clear hr hts
    cases hok : kA5 b x.shape with
    | false =>
      have HBd := hJ (HBad.out hok); rw [(kBT hok).1, (kBT hok).2.1] at HCx; clear hok
      go_wp2_with fail
      refine HCx.out.mono ?_
      rintro e w5 ⟨⟨_, rfl, hr5⟩, hb5⟩
      obtain ⟨_, rfl, a5, c5, rfl, hs5⟩ := hr5; have HP5 := hJ ((Bx.fresh wr 39 [.string x.elem, .string x.shape.row, .slice at_ x.shape.dims.length ct]).below hb5 (Bx.fresh _ _ _).lt); have p0 := HP5.out.cell 0 _ rfl; have p1 := HP5.out.cell 1 _ rfl; have p2 := HP5.out.cell 2 _ rfl; have u10 := HP5.out.fz 0; have u11 := HP5.out.fz 1; have u12 := HP5.out.fz 2
      have HB5 := hJ (hA.trans (hb5.mono (by simp)))
      have HR5 := hJ (HRr.out.below HB5.out HRr.out.lt); obtain ⟨w7, hfold7⟩ : ∃ q, ((w5.setCell ⟨wr.heap.size, 0, none⟩ (.string kDL.elem)).setCell ⟨wr.heap.size, 1, none⟩ (.string kDL.shape.row)).setCell ⟨wr.heap.size, 2, none⟩ (.slice a5 kDL.shape.dims.length c5) = q := ⟨_, rfl⟩
      have HRw := hJ (HR5.out.other3 (g' := wr.heap.size) (by omega) (.string kDL.elem) (.string kDL.shape.row) (.slice a5 kDL.shape.dims.length c5))
      rw [hfold7] at HRw
      have HWw : Hid (Below w.heap.size w w7) := hJ (by rw [← hfold7]; exact (((HBw.out.trans (HB5.out.mono HBw.out.size)).setCell (by show _ ≤ wr.heap.size; omega) _).setCell (by show _ ≤ wr.heap.size; omega) _).setCell (by show _ ≤ wr.heap.size; omega) _)
      have v0 := HRw.out.cell 0 _ rfl; have v1 := HRw.out.cell 1 _ rfl; have v2 := HRw.out.cell 2 _ rfl; have v3 := HRw.out.cell 3 _ rfl; have v4 := HRw.out.cell 4 _ rfl; have u0 := HRw.out.fz 0; have u1 := HRw.out.fz 1; have u2 := HRw.out.fz 2; have u3 := HRw.out.fz 3; have u4 := HRw.out.fz 4; have hlr := HRw.out.lt; have HX60 := hJ (((((HRw.out.set 0 (.slice none 0 0)).set 1 (.string ⟨#[]⟩)).set 2 (.string ⟨#[]⟩)).set 3 (.slice none 0 0)).set 4 (.slice none 0 0)); have s0 := HX60.out.cell 0 _ rfl; have s1 := HX60.out.cell 1 _ rfl; have s2 := HX60.out.cell 2 _ rfl; have s3 := HX60.out.cell 3 _ rfl; have s4 := HX60.out.cell 4 _ rfl
      go_wp2_with fail
      refine bodyPost_ret (v := .tuple #[.agg #[.slice none 0 0, .string ⟨#[]⟩, .string ⟨#[]⟩, .slice none 0 0, .slice none 0 0], .int .i64 3]) (by simp [results, results58, go_sem, s0, s1, s2, s3, s4, hlr]) rfl ?_
      refine ⟨⟨[.slice none 0 0, .string ⟨#[]⟩, .string ⟨#[]⟩, .slice none 0 0, .slice none 0 0], by rw [HBd.out.2], by rw [HBd.out.1]; exact kDP.no ..⟩, ?_⟩
      repeat (first | exact HWw.out | refine Below.setCell ?_ (by show _ ≤ w.heap.size + 1; omega) _)
    | true =>
      have HUp := hJ (HUp.out hok); rw [(kC2 hok).1, (kC2 hok).2.1] at HCx; clear hok HBad
      go_wp2_with fail
      refine HCx.out.mono ?_
      rintro e w5 ⟨⟨_, rfl, hr5⟩, hb5⟩
      obtain ⟨_, rfl, a5, c5, rfl, hs5⟩ := hr5
      generalize kAX b x = y at *
      have HP5 := hJ ((Bx.fresh wr 39 [.string x.elem, .string x.shape.row, .slice at_ x.shape.dims.length ct]).below hb5 (Bx.fresh _ _ _).lt)
      have HB5 := hJ (hA.trans (hb5.mono (by simp)))
      have p0 := HP5.out.cell 0 _ rfl; have p1 := HP5.out.cell 1 _ rfl; have p2 := HP5.out.cell 2 _ rfl; have u10 := HP5.out.fz 0; have u11 := HP5.out.fz 1; have u12 := HP5.out.fz 2; obtain ⟨w7, hfold7⟩ : ∃ q, ((w5.setCell ⟨wr.heap.size, 0, none⟩ (.string y.elem)).setCell ⟨wr.heap.size, 1, none⟩ (.string y.shape.row)).setCell ⟨wr.heap.size, 2, none⟩ (.slice a5 y.shape.dims.length c5) = q := ⟨_, rfl⟩
      have HB7 : Hid (Below wr.heap.size wr w7) := hJ (by rw [← hfold7]; exact ((HB5.out.setCell (by exact Nat.le_refl _) _).setCell (by exact Nat.le_refl _) _).setCell (by exact Nat.le_refl _) _)
      have HP7 := hJ (((HP5.out.set 0 (.string y.elem)).set 1 (.string y.shape.row)).set 2 (.slice a5 y.shape.dims.length c5)); rw [hfold7] at HP7; have r0 := HP7.out.cell 0 _ rfl; have r1 := HP7.out.cell 1 _ rfl; have r2 := HP7.out.cell 2 _ rfl; have HG7 := hJ (HG.out.below HB7.out hlG); have g0 := HG7.out.cell 0 _ rfl; have hs7 := HB7.out.size
      have HRY : Hid (RTyp.rd (fun q => w2.heap.size < q ∧ (Value.slice a0 m0 c0).ownBlock ≠ some q) w7 [.string y.elem, .string y.shape.row, .slice a5 y.shape.dims.length c5] y) := hJ ⟨_, rfl, a5, c5, rfl, by
       rw [← hfold7]
       have h1 := hs5.mono (S' := fun q => wr.heap.size < q) (fun q hq _ => by have hq : wr.heap.size + 1 ≤ q := by simpa using hq
                                                                               omega)
       refine Sl.mono (S := fun q => wr.heap.size < q) ?_ (fun q hq _ => ⟨by have : wr.heap.size < q := hq; omega, fun e => by have h8 := (HO.out.block e).2; have : wr.heap.size < q := hq; omega⟩)
       exact ((h1.set (fun q hq => Nat.ne_of_lt hq)).set (fun q hq => Nat.ne_of_lt hq)).set (fun q hq => Nat.ne_of_lt hq)⟩
      clear hs5 hb5 HP5
      go_wp2_with (at_builtin; refine kA8 kGE rfl _ _ rfl (w2.heap.size + 1) _ _ rfl ((HO.out.below HB7.out).alloc _) _ y [.string y.elem, .string y.shape.row, .slice a5 y.shape.dims.length c5] rfl (RTyp.below HRY.out ((Below.refl _ _).alloc (Nat.le_refl _) _)) (kA4 39 (by (simp only [kAG, kAE, Array.getElem?_push, Array.size_push]; simp))) (by omega) (by unfold maxLen; omega) (by simp; omega) ?_; intro v9 w9 hown9 hb9 hk9; obtain ⟨a9, m9, c9, rfl⟩ := hown9.shape; have HG9 := hJ ((HG7.out.alloc _).kp hk9 (HO.out.ne (Nat.lt_succ_self _))); have g9 := HG9.out.cell 0 _ rfl; have u9 := HG9.out.fz 0)
      go_roundw
      case rel => exact ⟨k + 1, _, by omega, by go_num, HUp, hJ (by rw [HNext.out]; exact hown9.set _ (fun q hq => Nat.ne_of_gt hq) (Nat.lt_succ_self _)), hJ (HG9.out.set 0 _), ((hB.trans (HB7.out.mono hB.size)).trans (((Below.refl _ _).alloc (by omega) _).trans (hb9.mono (Nat.le_succ _)))).setCell (Nat.le_refl _) _⟩
      case measure => simp [intOf]; omega
  · obtain rfl : k = n := by omega
    have HAll : Hid ((s.params.take k).map (kAX b) = s.params.map (kAX b)) := hJ (by rw [List.take_of_length_le (by rw [HN.out]; exact Nat.le_refl _)])
    rw [HAll.out] at HO; have HAr := hJ (HA2.out.below hB hlA); have y0 := HAr.out.cell 0 _ rfl; have y1 := HAr.out.cell 1 _ rfl; have y2 := HAr.out.cell 2 _ rfl; have y3 := HAr.out.cell 3 _ rfl; have y4 := HAr.out.cell 4 _ rfl; have HCx := hJ (HCT.out _ HBw.out s.result _ ⟨_, rfl, ar, cr, rfl, HRs.out.below HBw.out⟩ HV.out.2.2.2.1); have g0 := HG.out.cell 0 _ rfl
    cases hok : kA5 b s.result.shape with
    | false =>
      have HBd := hJ (sch_badR (b := b) hok); rw [(kBT hok).1, (kBT hok).2.1] at HCx; clear hok
      go_wp2_with fail
      refine HCx.out.mono ?_
      rintro e w5 ⟨⟨_, rfl, hr5⟩, hb5⟩
      obtain ⟨_, rfl, a5, c5, rfl, hs5⟩ := hr5; have HB5 := hJ hb5; have HG5 := hJ (HG.out.below hb5 hlG); have HR5 := hJ (HRr.out.below hb5 HRr.out.lt); have g1 := HG5.out.cell 1 _ rfl; have g2 := HG5.out.cell 2 _ rfl; have g3 := HG5.out.cell 3 _ rfl; have u11 := HG5.out.fz 1; have u12 := HG5.out.fz 2; have u13 := HG5.out.fz 3; obtain ⟨w7, hfold7⟩ : ∃ q, ((w5.setCell ⟨w2.heap.size, 1, none⟩ (.string kDL.elem)).setCell ⟨w2.heap.size, 2, none⟩ (.string kDL.shape.row)).setCell ⟨w2.heap.size, 3, none⟩ (.slice a5 kDL.shape.dims.length c5) = q := ⟨_, rfl⟩
      have HRw := hJ (((HR5.out.other (a := ⟨w2.heap.size, 1, none⟩) (u := .string kDL.elem) (by show w2.heap.size ≠ _; omega)).other (a := ⟨w2.heap.size, 2, none⟩) (u := .string kDL.shape.row) (by show w2.heap.size ≠ _; omega)).other (a := ⟨w2.heap.size, 3, none⟩) (u := .slice a5 kDL.shape.dims.length c5) (by show w2.heap.size ≠ _; omega))
      rw [hfold7] at HRw; have hsz2 := HW.out.size
      have HWw : Hid (Below w.heap.size w w7) := hJ (by rw [← hfold7]; exact (((HBw.out.trans (HB5.out.mono HBw.out.size)).setCell (by show _ ≤ w2.heap.size; omega) _).setCell (by show _ ≤ w2.heap.size; omega) _).setCell (by show _ ≤ w2.heap.size; omega) _)
      have v0 := HRw.out.cell 0 _ rfl; have v1 := HRw.out.cell 1 _ rfl; have v2 := HRw.out.cell 2 _ rfl; have v3 := HRw.out.cell 3 _ rfl; have v4 := HRw.out.cell 4 _ rfl; have u0 := HRw.out.fz 0; have u1 := HRw.out.fz 1; have u2 := HRw.out.fz 2; have u3 := HRw.out.fz 3; have u4 := HRw.out.fz 4; have hlr := HRw.out.lt; have HX60 := hJ (((((HRw.out.set 0 (.slice none 0 0)).set 1 (.string ⟨#[]⟩)).set 2 (.string ⟨#[]⟩)).set 3 (.slice none 0 0)).set 4 (.slice none 0 0)); have s0 := HX60.out.cell 0 _ rfl; have s1 := HX60.out.cell 1 _ rfl; have s2 := HX60.out.cell 2 _ rfl; have s3 := HX60.out.cell 3 _ rfl; have s4 := HX60.out.cell 4 _ rfl
      go_wp2_with fail
      refine bodyPost_ret (v := .tuple #[.agg #[.slice none 0 0, .string ⟨#[]⟩, .string ⟨#[]⟩, .slice none 0 0, .slice none 0 0], .int .i64 3]) (by simp [results, results58, go_sem, s0, s1, s2, s3, s4, hlr]) rfl ?_
      refine ⟨⟨[.slice none 0 0, .string ⟨#[]⟩, .string ⟨#[]⟩, .slice none 0 0, .slice none 0 0], by rw [HBd.out.2], by rw [HBd.out.1]; exact kDP.no ..⟩, ?_⟩
      repeat (first | exact HWw.out | refine Below.setCell ?_ (by show _ ≤ w.heap.size + 1; omega) _)
    | true =>
      have HokR := hJ hok; rw [(kC2 hok).1, (kC2 hok).2.1] at HCx; clear hok
      go_wp2_with fail
      refine HCx.out.mono ?_
      rintro e w5 ⟨⟨_, rfl, hr5⟩, hb5⟩
      obtain ⟨_, rfl, a5, c5, rfl, hs5⟩ := hr5; obtain ⟨y, hy⟩ : ∃ y, y = kAX b s.result := ⟨_, rfl⟩; have HY := hJ hy
      rw [← hy] at hs5 ⊢
      clear hy; have HB5 := hJ hb5; have HG5 := hJ (HG.out.below hb5 hlG); have HR5 := hJ (HRr.out.below hb5 HRr.out.lt); have HA5 := hJ (HAr.out.below hb5 HAr.out.lt); have g1 := HG5.out.cell 1 _ rfl; have g2 := HG5.out.cell 2 _ rfl; have g3 := HG5.out.cell 3 _ rfl; have u11 := HG5.out.fz 1; have u12 := HG5.out.fz 2; have u13 := HG5.out.fz 3; obtain ⟨w7, hfold7⟩ : ∃ q, ((w5.setCell ⟨w2.heap.size, 1, none⟩ (.string y.elem)).setCell ⟨w2.heap.size, 2, none⟩ (.string y.shape.row)).setCell ⟨w2.heap.size, 3, none⟩ (.slice a5 y.shape.dims.length c5) = q := ⟨_, rfl⟩
      have hne : ∀ g, g < w2.heap.size → w2.heap.size ≠ g := fun g hg => by omega
      have hsz2 := HW.out.size
      have HR7 : Hid (Bx w7 _ _ _) := hJ (hfold7 ▸ ((HR5.out.other (a := ⟨w2.heap.size, 1, none⟩) (hne _ hlR)).other (a := ⟨w2.heap.size, 2, none⟩) (hne _ hlR)).other (a := ⟨w2.heap.size, 3, none⟩) (hne _ hlR))
      have HA7 : Hid (Bx w7 _ _ _) := hJ (hfold7 ▸ ((HA5.out.other (a := ⟨w2.heap.size, 1, none⟩) (hne _ hlA)).other (a := ⟨w2.heap.size, 2, none⟩) (hne _ hlA)).other (a := ⟨w2.heap.size, 3, none⟩) (hne _ hlA))
      have HG7 : Hid (Bx w7 _ _ _) := hJ (hfold7 ▸ ((HG5.out.set 1 (.string y.elem)).set 2 (.string y.shape.row)).set 3 (.slice a5 y.shape.dims.length c5))
      have HO7 : Hid (Own RTyp 39 (fun q => w2.heap.size < q) w7 _ _ _) := hJ (hfold7 ▸ (((HO.out.below hb5).set (a := ⟨w2.heap.size, 1, none⟩) _ (fun q hq => Nat.ne_of_gt hq) (Nat.lt_succ_self _)).set (a := ⟨w2.heap.size, 2, none⟩) _ (fun q hq => Nat.ne_of_gt hq) (Nat.lt_succ_self _)).set (a := ⟨w2.heap.size, 3, none⟩) _ (fun q hq => Nat.ne_of_gt hq) (Nat.lt_succ_self _))
      have HS7 : Hid (Sl RLin (fun q => w2.heap.size < q) w7 _ _ _ _) := hJ (hfold7 ▸ (((hs5.mono (S' := fun q => w2.heap.size < q) (fun q hq _ => by have hq : wr.heap.size ≤ q := hq; omega)).set (ad := ⟨w2.heap.size, 1, none⟩) (fun q hq => Nat.ne_of_lt hq)).set (ad := ⟨w2.heap.size, 2, none⟩) (fun q hq => Nat.ne_of_lt hq)).set (ad := ⟨w2.heap.size, 3, none⟩) (fun q hq => Nat.ne_of_lt hq))
      have HB7 : Hid (Below w2.heap.size w2 w7) := hJ (by rw [← hfold7]; exact (((hB.trans (hb5.mono hB.size)).setCell (by exact Nat.le_refl _) _).setCell (by exact Nat.le_refl _) _).setCell (by exact Nat.le_refl _) _)
      have g4 := HA7.out.cell 4 _ rfl; have hl7 := HG7.out.lt; clear HCx HG HO HAr HRr HA2 HR2 HG5 HR5 HA5 HB5 hb5 hs5 hB HBw
      go_wp2_with fail
      have HMore : Hid (∀ W : World, W.heap[w.heap.size]? = w7.heap[w.heap.size]? → W.cell? ⟨w.heap.size, 4, none⟩ = some (.slice aq m cq)) := hJ (fun W q => Bx.cell (w := W) (q.trans HA7.out) 4 _ rfl)
      go_loopw [60] (fun i wt => ∃ (k : Nat) (v0 : Value), k ≤ m ∧ i = .int .i64 k ∧ Hid (∀ j, j < k → kAD (kAF b (s.wh.getD j default)) = true) ∧ Hid (Own RLin 65 (fun q => w7.heap.size ≤ q) wt w7.heap.size v0 ((s.wh.take k).map (kAF b))) ∧ Hid (Bx wt w2.heap.size 41 [.slice a0 m0 c0, .string y.elem, .string y.shape.row, .slice a5 y.shape.dims.length c5, v0]) ∧ Below w2.heap.size w2 wt ∧ Hid (∀ q, q < w7.heap.size → q ≠ w2.heap.size → wt.heap[q]? = w7.heap[q]?) ∧ w7.heap.size ≤ wt.heap.size) (fun i _ => m - (intOf i).toNat)
      case atStart => exact ⟨0, _, Nat.zero_le _, rfl, hJ (fun i hi => absurd hi (by omega)), hJ (Own.nil _ _ _ _ _), HG7, HB7.out, hJ (fun _ _ _ => rfl), Nat.le_refl _⟩
      case round =>
       clear HG7; obtain ⟨k, v0, hk, rfl, HTw, HOw, HG, hB, HKeep, hsz⟩ := hrel; have HBw := hJ (HW.out.trans (hB.mono HW.out.size))
       have HRr : Hid (Bx wr _ _ _) := hJ ((HKeep.out _ HR7.out.lt (by omega)).trans HR7.out)
       have hlG := HG.out.lt; have hlR := HRr.out.lt; obtain ⟨a6, m6, c6, rfl⟩ := HOw.out.shape
       have y4 := HMore.out wr (HKeep.out _ (by omega) (by omega))
       by_cases hlt : k < m
       · obtain ⟨b1, off, rfl, hbW, _⟩ := HQs.out.form k hlt
         obtain ⟨t, hr, ⟨at_, ct, rfl, hts⟩, e0, e1⟩ := (HQs.out.below HBw.out).lin k hlt
         have HK : Hid (k < s.wh.length) := hJ (by rw [HM.out]; exact hlt)
         have HNext : Hid ((s.wh.take (k + 1)).map (kAF b) = (s.wh.take k).map (kAF b) ++ [kAF b (s.wh.getD k default)]) := hJ (by rw [kAU HK.out, List.map_append]; rfl)
         have hkl : ((s.wh.take k).map (kAF b)).length = k := by rw [List.length_map, List.length_take, HM.out]; omega
         have HBad := hJ (fun q => sch_badW (b := b) HK.out q)
         have HUp := hJ (fun q => upto HTw.out (p := fun j => kAD (kAF b (s.wh.getD j default)) = true) q)
         have HXv := hJ (HV.out.2.2.2.2 _ (kAI HK.out))
         generalize s.wh.getD k default = x at *
         generalize (s.wh.take k).map (kAF b) = lk at *
         have hA : Below wr.heap.size wr (wr.alloc (.cells #[.int .i64 x.const, .slice at_ x.terms.length ct] 65)) := (Below.refl _ _).alloc (Nat.le_refl _) _
         have HCx := hJ (HCL.out _ (HBw.out.trans (hA.mono HBw.out.size)) x _ (RLin.below hr hA) HXv.out); clear hr hts
         cases hvx : kAD (kAF b x) with
         | false =>
           have HBd := hJ (HBad.out hvx); rw [(lim_bad hvx).2] at HCx; clear hvx
           generalize limL (kAF b x) = z at *
           go_wp2_with fail
           refine HCx.out.mono ?_
           rintro e w5 ⟨⟨_, rfl, hr5⟩, hb5⟩
           obtain ⟨_, rfl, a8, c8, rfl, hs5⟩ := hr5; have HP5 := hJ ((Bx.fresh wr 65 [.int .i64 x.const, .slice at_ x.terms.length ct]).below hb5 (Bx.fresh _ _ _).lt); have p0 := HP5.out.cell 0 _ rfl; have p1 := HP5.out.cell 1 _ rfl; have u10 := HP5.out.fz 0; have u11 := HP5.out.fz 1
           have HB5 := hJ (hA.trans (hb5.mono (by simp)))
           have HR5 := hJ (HRr.out.below HB5.out HRr.out.lt); obtain ⟨w8, hfold8⟩ : ∃ q, (w5.setCell ⟨wr.heap.size, 0, none⟩ (.int .i64 z.const)).setCell ⟨wr.heap.size, 1, none⟩ (.slice a8 z.terms.length c8) = q := ⟨_, rfl⟩
           have HRw := hJ (HR5.out.other2 (g' := wr.heap.size) (by omega) (.int .i64 z.const) (.slice a8 z.terms.length c8))
           rw [hfold8] at HRw
           have HWw : Hid (Below w.heap.size w w8) := hJ (by rw [← hfold8]; exact ((HBw.out.trans (HB5.out.mono HBw.out.size)).setCell (by show _ ≤ wr.heap.size; omega) _).setCell (by show _ ≤ wr.heap.size; omega) _)
           have v0 := HRw.out.cell 0 _ rfl; have v1 := HRw.out.cell 1 _ rfl; have v2 := HRw.out.cell 2 _ rfl; have v3 := HRw.out.cell 3 _ rfl; have v4 := HRw.out.cell 4 _ rfl; have u0 := HRw.out.fz 0; have u1 := HRw.out.fz 1; have u2 := HRw.out.fz 2; have u3 := HRw.out.fz 3; have u4 := HRw.out.fz 4; have hlr := HRw.out.lt; have HX60 := hJ (((((HRw.out.set 0 (.slice none 0 0)).set 1 (.string ⟨#[]⟩)).set 2 (.string ⟨#[]⟩)).set 3 (.slice none 0 0)).set 4 (.slice none 0 0)); have s0 := HX60.out.cell 0 _ rfl; have s1 := HX60.out.cell 1 _ rfl; have s2 := HX60.out.cell 2 _ rfl; have s3 := HX60.out.cell 3 _ rfl; have s4 := HX60.out.cell 4 _ rfl
           go_wp2_with fail
           refine bodyPost_ret (v := .tuple #[.agg #[.slice none 0 0, .string ⟨#[]⟩, .string ⟨#[]⟩, .slice none 0 0, .slice none 0 0], .int .i64 3]) (by simp [results, results58, go_sem, s0, s1, s2, s3, s4, hlr]) rfl ?_
           refine ⟨⟨[.slice none 0 0, .string ⟨#[]⟩, .string ⟨#[]⟩, .slice none 0 0, .slice none 0 0], by rw [HBd.out.2], by rw [HBd.out.1]; exact kDP.no ..⟩, ?_⟩
           repeat (first | exact HWw.out | refine Below.setCell ?_ (by show _ ≤ w.heap.size + 1; omega) _)
         | true =>
           have HUp2 := hJ (HUp.out hvx); clear HUp; rw [(kDT hvx).1, (kDT hvx).2] at HCx; clear hvx HBad
           go_wp2_with fail
           refine HCx.out.mono ?_
           rintro e w5 ⟨⟨_, rfl, hr5⟩, hb5⟩
           obtain ⟨_, rfl, a8, c8, rfl, hs5⟩ := hr5
           generalize kAF b x = z at *
           have HP5 := hJ ((Bx.fresh wr 65 [.int .i64 x.const, .slice at_ x.terms.length ct]).below hb5 (Bx.fresh _ _ _).lt); have p0 := HP5.out.cell 0 _ rfl; have p1 := HP5.out.cell 1 _ rfl; have u10 := HP5.out.fz 0; have u11 := HP5.out.fz 1
           have HB5 := hJ (hA.trans (hb5.mono (by simp)))
           obtain ⟨w8, hfold8⟩ : ∃ q, (w5.setCell ⟨wr.heap.size, 0, none⟩ (.int .i64 z.const)).setCell ⟨wr.heap.size, 1, none⟩ (.slice a8 z.terms.length c8) = q := ⟨_, rfl⟩
           have HB8 : Hid (Below wr.heap.size wr w8) := hJ (by rw [← hfold8]; exact (HB5.out.setCell (by exact Nat.le_refl _) _).setCell (by exact Nat.le_refl _) _)
           have HP8 := hJ ((HP5.out.set 0 (.int .i64 z.const)).set 1 (.slice a8 z.terms.length c8)); rw [hfold8] at HP8; have r0 := HP8.out.cell 0 _ rfl; have r1 := HP8.out.cell 1 _ rfl
           have HS8 : Hid (Sl kBP (fun q => wr.heap.size ≤ q) w8 a8 z.terms.length c8 z.terms) := hJ (by
            rw [← hfold8]
            have h1 := hs5.mono (S' := fun q => wr.heap.size < q) (fun q hq _ => by have hq : wr.heap.size + 1 ≤ q := by simpa using hq
                                                                                    omega)
            refine Sl.mono (S := fun q => wr.heap.size < q) ?_ (fun q hq _ => Nat.le_of_lt hq)
            exact (h1.set (fun q hq => Nat.ne_of_lt hq)).set (fun q hq => Nat.ne_of_lt hq))
           clear hs5 hb5 HP5; have HG8 := hJ (HG.out.below HB8.out hlG); have g4 := HG8.out.cell 4 _ rfl; have hs8 := HB8.out.size
           have HRY : Hid (RLin.rd (fun q => w7.heap.size ≤ q ∧ (Value.slice a6 m6 c6).ownBlock ≠ some q) w8 [.int .i64 z.const, .slice a8 z.terms.length c8] z) := hJ ⟨_, rfl, a8, c8, rfl, HS8.out.mono (fun q hq _ => ⟨by have : wr.heap.size ≤ q := hq; omega, fun e => by have h8 := (HOw.out.block e).2; have : wr.heap.size ≤ q := hq; omega⟩)⟩
           clear HS8
           go_wp2_with (at_builtin; refine kA8 kBJ rfl _ _ rfl w7.heap.size _ _ rfl ((HOw.out.below HB8.out).alloc _) _ z [.int .i64 z.const, .slice a8 z.terms.length c8] rfl (RLin.below HRY.out ((Below.refl _ _).alloc (Nat.le_refl _) _)) (kA4 65 (by (simp only [kAG, kAE, Array.getElem?_push, Array.size_push]; simp))) (by omega) (by unfold maxLen; omega) (by simp; omega) ?_; intro v9 w9 hown9 hb9 hk9; obtain ⟨a9, m9, c9, rfl⟩ := hown9.shape; have HG9 := hJ ((HG8.out.alloc _).kp hk9 (HOw.out.ne hl7)); have g9 := HG9.out.cell 4 _ rfl; have u9 := HG9.out.fz 4)
           go_roundw
           case rel => exact ⟨k + 1, _, by omega, by go_num, HUp2, hJ (by rw [HNext.out]; exact hown9.set _ (fun q hq => Nat.ne_of_gt (Nat.lt_of_lt_of_le hl7 hq)) hl7), hJ (HG9.out.set 4 _), ((hB.trans (HB8.out.mono hB.size)).trans (((Below.refl _ _).alloc (by omega) _).trans (hb9.mono (Nat.le_of_lt hl7)))).setCell (Nat.le_refl _) _, hJ (fun q hq hne => (kAA (fun e => hne e.symm)).trans ((((Below.refl _ _).alloc (B := w7.heap.size) (by omega) _).trans hb9).block q hq |>.trans ((HB8.out.block q (by omega)).trans (HKeep.out q hq hne)))), by have := hb9.size; simp at this ⊢; omega⟩
           case measure => simp [intOf]; omega
       · obtain rfl : k = m := by omega
         have HAll : Hid ((s.wh.take k).map (kAF b) = s.wh.map (kAF b)) := hJ (by rw [List.take_of_length_le (by rw [HM.out]; exact Nat.le_refl _)])
         rw [HAll.out] at HOw; obtain ⟨z1, z2⟩ := HGood.out HT.out HokR.out HTw.out; have HZ1 := hJ z1; have HZ2 := hJ z2; clear z1 z2; have g0 := HG.out.cell 0 _ rfl; have g1 := HG.out.cell 1 _ rfl; have g2 := HG.out.cell 2 _ rfl; have g3 := HG.out.cell 3 _ rfl; have g4 := HG.out.cell 4 _ rfl; have v0 := HRr.out.cell 0 _ rfl; have v1 := HRr.out.cell 1 _ rfl; have v2 := HRr.out.cell 2 _ rfl; have v3 := HRr.out.cell 3 _ rfl; have v4 := HRr.out.cell 4 _ rfl; have u0 := HRr.out.fz 0; have u1 := HRr.out.fz 1; have u2 := HRr.out.fz 2; have u3 := HRr.out.fz 3; have u4 := HRr.out.fz 4; have hlr := HRr.out.lt; have HX60 := hJ (((((HRr.out.set 0 (.slice a0 m0 c0)).set 1 (.string y.elem)).set 2 (.string y.shape.row)).set 3 (.slice a5 y.shape.dims.length c5)).set 4 (.slice a6 m6 c6)); have s0 := HX60.out.cell 0 _ rfl; have s1 := HX60.out.cell 1 _ rfl; have s2 := HX60.out.cell 2 _ rfl; have s3 := HX60.out.cell 3 _ rfl; have s4 := HX60.out.cell 4 _ rfl
         go_wp2_with fail
         refine bodyPost_ret (v := .tuple #[.agg #[.slice a0 m0 c0, .string y.elem, .string y.shape.row, .slice a5 y.shape.dims.length c5, .slice a6 m6 c6], .int .i64 0]) (by simp [results, results58, go_sem, s0, s1, s2, s3, s4, hlr]) rfl ?_
         refine ⟨⟨[.slice a0 m0 c0, .string y.elem, .string y.shape.row, .slice a5 y.shape.dims.length c5, .slice a6 m6 c6], by rw [HZ2.out], ?_⟩, ?_⟩
         · rw [HZ1.out]
           have q2 := (HS7.out.mono (S' := fun q => w2.heap.size < q ∧ q < w7.heap.size) (fun q hq hlt => ⟨hq, hlt⟩)).frame (w' := wr) (fun q hq hlt => HKeep.out q hlt (Nat.ne_of_gt hq.1))
           obtain ⟨a10, c10, e10, q1⟩ := HO7.out.sl
           have q1 := (q1.mono (S' := fun q => w2.heap.size < q ∧ q < w7.heap.size) (fun q hq hlt => ⟨hq.elim id id, hlt⟩)).frame (w' := wr) (fun q hq hlt => HKeep.out q hlt (Nat.ne_of_gt hq.1))
           rw [Value.slice.injEq] at e10; obtain ⟨rfl, rfl, rfl⟩ := e10
           have hR2 : ∀ {α : Type} {R : Rep α} {a : Option Addr} {n c : Nat} {l : List α}, Sl R (fun q => w2.heap.size < q ∧ q < w7.heap.size) wr a n c l → Sl R (fun k => w.heap.size ≤ k ∧ k < w7.heap.size) (((((wr.setCell ⟨w.heap.size + 1, 0, none⟩ (.slice a0 (s.params.map (kAX b)).length c0)).setCell ⟨w.heap.size + 1, 1, none⟩ (.string y.elem)).setCell ⟨w.heap.size + 1, 2, none⟩ (.string y.shape.row)).setCell ⟨w.heap.size + 1, 3, none⟩ (.slice a5 y.shape.dims.length c5)).setCell ⟨w.heap.size + 1, 4, none⟩ (.slice a6 m6 c6)) a n c l := by
            intro α R a n c l hs
            have hne : ∀ q, (w2.heap.size < q ∧ q < w7.heap.size) → w.heap.size + 1 ≠ q := fun q hq => by omega
            exact (((((hs.set hne).set hne).set hne).set hne).set hne).mono (fun q hq _ => by omega)
           have hS3 : ∀ q, w7.heap.size ≤ q → q ≠ w.heap.size + 1 := fun q hq => by omega
           have hl3 : w.heap.size + 1 < w7.heap.size := by omega
           refine ⟨w7.heap.size, _, _, _, by omega, by rw [HY.out]; rfl, ⟨a0, c0, rfl, hR2 q1⟩, ⟨a5, c5, by first | rfl | (rw [HY.out]; rfl), ?_⟩, ((((HOw.out.set _ hS3 hl3).set _ hS3 hl3).set _ hS3 hl3).set _ hS3 hl3).set _ hS3 hl3⟩
           have := hR2 q2
           show Sl RLin _ _ a5 (kAX b s.result).shape.dims.length c5 (kAX b s.result).shape.dims
           rw [← HY.out]
           exact this
         · repeat (first | exact HBw.out | refine Below.setCell ?_ (by show _ ≤ w.heap.size + 1; omega) _)
def kDY (s : Sch) : Int := if kAJ s then kB7 (ren (kA1 s)) s else 1
theorem can_no {s : Sch} (h : kAJ s = false) : kDY s = 1 ∧ can s = kCQ := by
 unfold kDY can kEW kBN
 rw [h]; exact ⟨rfl, rfl⟩
theorem can_bad {s : Sch} (hv : kAJ s = true) (h : kBN (ren (kA1 s)) s = false) : kDY s = 3 ∧ can s = kCQ := by
 unfold kDY can kEW
 rw [hv, h, (sch_no h).2]; exact ⟨rfl, rfl⟩
theorem can_good {s : Sch} (hv : kAJ s = true) (h : kBN (ren (kA1 s)) s = true) : kDY s = 0 ∧ can s = ⟨s.params.map (kAX (ren (kA1 s))), kAX (ren (kA1 s)) s.result, tidy (s.wh.map (kAF (ren (kA1 s))))⟩ := by
 unfold kDY can kEW
 rw [hv, h]
 refine ⟨?_, rfl⟩
 show kB7 _ _ = 0
 unfold kB7
 rw [h]; rfl
theorem ren_plain {l : List Bnd} (h : InvV l) : kEZ (ren l) := by
 intro y hy
 obtain ⟨i, hi, rfl⟩ := List.mem_map.1 hy; have hi := List.mem_range.1 hi; have hb := (h.good _ (kAI hi)).1
 unfold kE0 renB
 generalize l.getD i default = x at *
 split
 · show x.row.dims = []; rw [hb]; rfl
 · split
   · show x.row.dims = []; rw [hb]; rfl
   · show x.row.dims = []; rw [hb]; rfl
theorem Raw.set2 {k : Nat} {E : TypeId} {w : World} {g : Nat} {css : List (List Value)} {rest : List Value} (h : Raw k E w g css rest) {i : Nat} {cs : List Value} (hi : css[i]? = some cs) {j j2 : Nat} (hj : j < k) (hj2 : j2 < k) (u u2 : Value) : Raw k E ((w.setCell ⟨g, i * k + j, none⟩ u).setCell ⟨g, i * k + j2, none⟩ u2) g (css.set i ((cs.set j u).set j2 u2)) rest := by
 have hl : i < css.length := by
  rcases Nat.lt_or_ge i css.length with q | q
  · exact q
  · rw [List.getElem?_eq_none q] at hi; cases hi
 have h2 := (h.set hi hj u).set (i := i) (cs := cs.set j u) (List.getElem?_set_self hl) hj2 u2
 rwa [List.set_set] at h2
theorem itoa_nat (n : Nat) (hn : n ≤ 100000) (w : World) (E : Env w) : Calls Tryz.prog 56 #[.int .i64 n] w fun e w' => e = .returned (.string (decS n)) ∧ Below w.heap.size w w' := by
 have h := kFQ (n : Int) (by omega) (by omega) w E
 have e : Lib.itoa (n : Int) = Lib.decDigits n := by unfold Lib.itoa; rw [if_neg (by omega)]; simp
 rw [e] at h
 exact h
theorem canonical_1 {S : Blk} {x : Lin} {cs : List Value} {w : World} (h : RLin.rd S w cs x) :
 Calls Tryz.prog 60 #[.agg cs.toArray] w fun e w' => e = .returned (.bool (dropL x)) ∧ Below w.heap.size w w' := by
 have HC := hJ (fun (W : World) (hW : Below w.heap.size w W) => linear_Const (RLin.below h hW))
 obtain ⟨t, rfl, a, c, rfl, hs⟩ := h
 have HD : Hid (dropL x = (x.terms.length == 0 && decide (0 ≤ x.const))) := hJ rfl
 clear hs; obtain ⟨B0, ya, hW0⟩ := box1 w 65 [.int .i64 x.const, .slice a x.terms.length c]; have xa0 := box0 ya 0 _ rfl; have xa1 := box0 ya 1 _ rfl; clear ya
 generalize x.terms.length = n at *
 by_cases h0 : n = 0
 · have HC2 : Hid (∀ W, Below w.heap.size w W → Calls Tryz.prog 61 #[.agg #[.int .i64 x.const, .slice a n c]] W fun e w' => e = .returned (.tuple #[.int .i64 x.const, .bool true]) ∧ Below W.heap.size W w') := hJ (fun W hW => by have := HC.out W hW; rwa [if_pos h0, decide_eq_true h0] at this)
   have HD2 : Hid (dropL x = decide (0 ≤ x.const)) := hJ (by rw [HD.out, show (n == 0) = true by simpa using h0]; rfl)
   clear HC h0
   go_enter func60, ntmps60
   go_wp2_with fail
   refine (HC2.out _ B0.out).mono ?_
   rintro e w1 ⟨rfl, hb⟩
   go_wp2_with fail
   go_ret
   exact ⟨by rw [HD2.out]; rfl, B0.out.trans (hb.mono B0.out.size)⟩
 · have HC2 : Hid (∀ W, Below w.heap.size w W → Calls Tryz.prog 61 #[.agg #[.int .i64 x.const, .slice a n c]] W fun e w' => e = .returned (.tuple #[.int .i64 0, .bool false]) ∧ Below W.heap.size W w') := hJ (fun W hW => by have := HC.out W hW; rwa [if_neg h0, decide_eq_false h0] at this)
   have HD2 : Hid (dropL x = false) := hJ (by rw [HD.out, show (n == 0) = false by simpa using h0]; rfl)
   clear HC h0
   go_enter func60, ntmps60
   go_wp2_with fail
   refine (HC2.out _ B0.out).mono ?_
   rintro e w1 ⟨rfl, hb⟩
   go_wp2_with fail
   go_ret
   exact ⟨by rw [HD2.out]; rfl, B0.out.trans (hb.mono B0.out.size)⟩
theorem canErr_ok (s : Sch) : kDY s = 0 ↔ kEW s = true := by
 cases hv : kAJ s with
 | false =>
   rw [(can_no hv).1]
   unfold kEW kBN
   rw [hv]
   constructor
   · intro h; cases h
   · intro h; cases h
 | true =>
   unfold kEW
   cases ho : kBN (ren (kA1 s)) s with
   | false => rw [(can_bad hv ho).1]; constructor <;> (intro h; cases h)
   | true => rw [(can_good hv ho).1]; exact ⟨fun _ => rfl, fun _ => rfl⟩
def kFG (m : List Ent) (k : Nat) : List Ent := (m.take k).map canE ++ m.drop k
theorem canUp_zero (m : List Ent) : kFG m 0 = m := by unfold kFG; simp
theorem canUp_all (m : List Ent) : kFG m m.length = m.map canE := by unfold kFG; simp
theorem canUp_len (m : List Ent) (k : Nat) : (kFG m k).length = m.length := by
 unfold kFG
 rw [List.length_append, List.length_map, List.length_take, List.length_drop]
 omega
theorem canUp_at {m : List Ent} {k : Nat} (hk : k < m.length) : (kFG m k)[k]? = some (m.getD k default) := by
 unfold kFG
 rw [List.getElem?_append_right (by rw [List.length_map, List.length_take]; omega), List.length_map, List.length_take, List.getElem?_drop, show k + (k - min k m.length) = k by omega]
 rw [List.getD_eq_getElem?_getD, List.getElem?_eq_getElem hk]; rfl
theorem canUp_next {m : List Ent} {k : Nat} (hk : k < m.length) : (kFG m k).set k (canE (m.getD k default)) = kFG m (k + 1) := by
 unfold kFG
 rw [List.set_append_right _ _ (by rw [List.length_map, List.length_take]; omega), List.length_map, List.length_take, show k - min k m.length = 0 by omega]
 rw [List.drop_eq_getElem_cons hk, List.set_cons_zero, List.take_succ_eq_append_getElem hk, List.map_append, List.append_assoc]
 rw [List.getD_eq_getElem?_getD, List.getElem?_eq_getElem hk]; rfl
def okK (mod : Str) (m : List Ent) (k : Nat) : Bool := kA0 mod && (m.take k).all goodE
theorem okK_zero (mod : Str) (m : List Ent) : okK mod m 0 = kA0 mod := by unfold okK; simp
theorem okK_next {mod : Str} {m : List Ent} {k : Nat} (hk : k < m.length) : okK mod m (k + 1) = (okK mod m k && goodE (m.getD k default)) := by
 unfold okK
 rw [List.take_succ_eq_append_getElem hk, List.all_append, Bool.and_assoc, List.getD_eq_getElem?_getD, List.getElem?_eq_getElem hk]
 simp
theorem okK_all {mod : Str} {m l : List Ent} (hp : m.Perm l) : okK mod m m.length = mkOk mod l := by
 unfold okK mkOk
 rw [List.take_length]
 congr 1
 rw [Bool.eq_iff_iff, List.all_eq_true, List.all_eq_true]
 exact ⟨fun h x hx => h x (hp.mem_iff.2 hx), fun h x hx => h x (hp.mem_iff.1 hx)⟩
theorem goodE_err (x : Ent) : goodE x = (decide (kDY x.scheme = 0) && kA0 x.name) := by
 unfold goodE
 congr 1
 rw [Bool.eq_iff_iff, decide_eq_true_eq, canErr_ok]
theorem canE_name (m : List Ent) (k : Nat) : ((m.map canE).getD k default).name = (m.getD k default).name := by
 rw [List.getD_eq_getElem?_getD, List.getElem?_map, List.getD_eq_getElem?_getD]
 cases m[k]? with
 | none => rfl
 | some x => rfl
theorem asc_of {m : List Ent} (hle : Le cmpE m) (h : ∀ j, 0 < j → j < m.length → (m.getD (j - 1) default).name ≠ (m.getD j default).name) : Asc m := by
 have one : ∀ j (h1 : j < m.length) (h0 : 0 < j), slt (m[j - 1]'(by omega)).name (m[j]'h1).name = true := fun j h1 h0 => by
  have q := h j h0 h1
  rw [List.getD_eq_getElem?_getD, List.getElem?_eq_getElem (show j - 1 < m.length by omega), List.getD_eq_getElem?_getD, List.getElem?_eq_getElem h1] at q
  have p : cmpE (m[j - 1]'(by omega)) (m[j]'h1) ≤ 0 := List.pairwise_iff_getElem.1 hle (j - 1) j (by omega) h1 (by omega)
  unfold cmpE at p
  rw [cmpS_le] at p
  cases e : slt (m[j - 1]'(by omega)).name (m[j]'h1).name with
  | true => rfl
  | false => exact absurd (kCO e p) q
 refine List.pairwise_iff_getElem.2 fun i j hi hj hij => ?_
 have key : ∀ d i (hi : i < m.length) (hd : i + d + 1 < m.length), slt m[i].name m[i + d + 1].name = true := fun d => by
  induction d with
  | zero => intro i hi hd; exact one (i + 1) hd (by omega)
  | succ d ih => intro i hi hd; exact kBR (ih i hi (by omega)) (one (i + d + 1 + 1) hd (by omega))
 have := key (j - i - 1) i hi (by omega)
 have e : i + (j - i - 1) + 1 = j := by omega
 simpa [e] using this
theorem asc_uni {m : List Ent} (h : Asc m) : Uni m := h.imp fun {a b} hab e => by rw [e, kBZ] at hab; cases hab
theorem not_uni {m : List Ent} {j : Nat} (h0 : 0 < j) (hj : j < m.length) (h : (m.getD (j - 1) default).name = (m.getD j default).name) : ¬Uni m := fun u => by
 rw [List.getD_eq_getElem?_getD, List.getElem?_eq_getElem (show j - 1 < m.length by omega), List.getD_eq_getElem?_getD, List.getElem?_eq_getElem hj] at h
 exact List.pairwise_iff_getElem.1 u (j - 1) j (by omega) hj (by omega) h
theorem says_bad {mod : Str} {m l : List Ent} (hp : m.Perm l) (h : okK mod m m.length = false) : Says mod l kCL 1 := .inl ⟨by rw [← okK_all hp]; exact h, rfl, rfl⟩
theorem says_twice {mod : Str} {m l : List Ent} (hp : m.Perm l) (h : okK mod m m.length = true) {j : Nat} (h0 : 0 < j) (hj : j < m.length) (he : (m.getD (j - 1) default).name = (m.getD j default).name) : Says mod l kCL 8 :=
 .inr (.inl ⟨by rw [← okK_all hp]; exact h, fun u => not_uni h0 hj he (u.perm hp.symm), rfl, rfl⟩)
theorem says_done {mod : Str} {m l : List Ent} (hp : m.Perm l) (h : okK mod m m.length = true) (hle : Le cmpE m) (hne : ∀ j, 0 < j → j < m.length → (m.getD (j - 1) default).name ≠ (m.getD j default).name) : Says mod l ⟨mod, m.map canE⟩ 0 :=
 have ha := asc_of hle hne
 .inr (.inr ⟨by rw [← okK_all hp]; exact h, (asc_uni ha).perm hp, rfl, m, hp, ha, rfl⟩)
theorem types_Canonical {S : Blk} {s : Sch} {cs : List Value} {w : World} (h : RSch.rd S w cs s) (hz : szS s) (hwl : kAJ s = true → s.wh.length ≤ 12) (E : Env w) :
 Calls Tryz.prog 28 #[.agg cs.toArray] w fun e w' => (∃ ds, e = .returned (.tuple #[.agg ds.toArray, .int .i64 (kDY s)]) ∧ RSch.rd (fun q => w.heap.size ≤ q) w' ds (can s)) ∧ Below w.heap.size w w' := by
 have HV : Hid (∀ W, Below w.heap.size w W → Calls Tryz.prog 36 #[.agg cs.toArray] W fun e w' => e = .returned (.bool (kAJ s)) ∧ Below W.heap.size W w') :=
  hJ (fun W hW => kBX (RSch.below h hW) hz (E.below hW))
 have HE := hJ (fun (W : World) (hW : Below w.heap.size w W) => E.below hW)
 have HSc := hJ (fun (W : World) (hW : Below w.heap.size w W) => RSch.below h hW)
 cases hv : kAJ s with
 | false =>
   rw [hv] at HV; have HBd := hJ (can_no hv); obtain ⟨p, t, q, rfl, ⟨ap, cp, rfl, _⟩, ⟨at_, ct, rfl, _⟩, ⟨aq, cq, rfl, _⟩⟩ := h; clear hv; obtain ⟨B0, ya, yb, hW0⟩ := box2 w 41 [.slice ap s.params.length cp, .string s.result.elem, .string s.result.shape.row, .slice at_ s.result.shape.dims.length ct, .slice aq s.wh.length cq] 41 [.slice none 0 0, .string ⟨#[]⟩, .string ⟨#[]⟩, .slice none 0 0, .slice none 0 0]; have xa0 := box0 ya 0 _ rfl; have xa1 := box0 ya 1 _ rfl; have xa2 := box0 ya 2 _ rfl; have xa3 := box0 ya 3 _ rfl; have xa4 := box0 ya 4 _ rfl; have xb0 := box0 yb 0 _ rfl; have xb1 := box0 yb 1 _ rfl; have xb2 := box0 yb 2 _ rfl; have xb3 := box0 yb 3 _ rfl; have xb4 := box0 yb 4 _ rfl
   have bka : Bx _ _ _ _ := ya; have bkb : Bx _ _ _ _ := yb
   clear ya yb; have HR0 := hJ bkb; clear bka bkb
   go_enter func28, ntmps28
   go_wp2_with fail
   refine (HV.out _ B0.out).mono ?_
   rintro e w1 ⟨rfl, hb1⟩
   have HRw := hJ (HR0.out.below hb1 HR0.out.lt)
   have HWw : Hid (Below w.heap.size w w1) := hJ (B0.out.trans (hb1.mono B0.out.size))
   clear xa0 xa1 xa2 xa3 xa4 xb0 xb1 xb2 xb3 xb4 hb1 HR0 B0 HV; have v0 := HRw.out.cell 0 _ rfl; have v1 := HRw.out.cell 1 _ rfl; have v2 := HRw.out.cell 2 _ rfl; have v3 := HRw.out.cell 3 _ rfl; have v4 := HRw.out.cell 4 _ rfl; have u0 := HRw.out.fz 0; have u1 := HRw.out.fz 1; have u2 := HRw.out.fz 2; have u3 := HRw.out.fz 3; have u4 := HRw.out.fz 4; have hlr := HRw.out.lt; have HX60 := hJ (((((HRw.out.set 0 (.slice none 0 0)).set 1 (.string ⟨#[]⟩)).set 2 (.string ⟨#[]⟩)).set 3 (.slice none 0 0)).set 4 (.slice none 0 0)); have s0 := HX60.out.cell 0 _ rfl; have s1 := HX60.out.cell 1 _ rfl; have s2 := HX60.out.cell 2 _ rfl; have s3 := HX60.out.cell 3 _ rfl; have s4 := HX60.out.cell 4 _ rfl
   go_wp2_with fail
   refine bodyPost_ret (v := .tuple #[.agg #[.slice none 0 0, .string ⟨#[]⟩, .string ⟨#[]⟩, .slice none 0 0, .slice none 0 0], .int .i64 1]) (by simp [results, results28, go_sem, s0, s1, s2, s3, s4, hlr]) rfl ?_
   refine ⟨⟨[.slice none 0 0, .string ⟨#[]⟩, .string ⟨#[]⟩, .slice none 0 0, .slice none 0 0], by rw [HBd.out.1], by rw [HBd.out.2]; exact (kDP.no _ _).rd⟩, ?_⟩
   repeat (first | exact HWw.out | refine Below.setCell ?_ (by show _ ≤ w.heap.size + 1; omega) _)
 | true =>
   rw [hv] at HV
   have HCV : Hid (∀ W, Below w.heap.size w W → Calls Tryz.prog 55 #[.agg cs.toArray] W fun e w' => (∃ v, e = .returned v ∧ Own RBnd 103 (fun _ => False) w' W.heap.size v (kA1 s)) ∧ Below W.heap.size W w') :=
    hJ (fun W hW => types_Vars (HSc.out W hW) hv (HE.out W hW))
   have HInv := hJ (kCX hv); have HLen := hJ (kEJ (s := s))
   have HCS := hJ (fun (W : World) (hW : Below w.heap.size w W) (T : Blk) (a : Option Addr) (nb cb : Nat) (hbs : Sl RBnd T W a nb cb (ren (kA1 s))) => types_SubstScheme (HSc.out W hW) hv (ren (kA1 s)) a nb cb hbs (kGG hv) (ren_plain (kCX hv)) (HE.out W hW))
   have HBad := hJ (fun q => can_bad hv q)
   have HGood := hJ (fun q => can_good hv q)
   have HWL : Hid (s.wh.length ≤ 12) := hJ (hwl hv)
   obtain ⟨p, t, q, rfl, ⟨ap, cp, rfl, _⟩, ⟨at_, ct, rfl, _⟩, ⟨aq, cq, rfl, _⟩⟩ := h; clear hv hwl HSc E
   generalize kA1 s = L at *
   obtain ⟨B0, ya, yb, hW0⟩ := box2 w 41 [.slice ap s.params.length cp, .string s.result.elem, .string s.result.shape.row, .slice at_ s.result.shape.dims.length ct, .slice aq s.wh.length cq] 41 [.slice none 0 0, .string ⟨#[]⟩, .string ⟨#[]⟩, .slice none 0 0, .slice none 0 0]; have xa0 := box0 ya 0 _ rfl; have xa1 := box0 ya 1 _ rfl; have xa2 := box0 ya 2 _ rfl; have xa3 := box0 ya 3 _ rfl; have xa4 := box0 ya 4 _ rfl; have xb0 := box0 yb 0 _ rfl; have xb1 := box0 yb 1 _ rfl; have xb2 := box0 yb 2 _ rfl; have xb3 := box0 yb 3 _ rfl; have xb4 := box0 yb 4 _ rfl
   have bka : Bx _ _ _ _ := ya; have bkb : Bx _ _ _ _ := yb
   clear ya yb; have HA0 := hJ bka; have HR0 := hJ bkb; clear bka bkb
   go_enter func28, ntmps28
   go_wp2_with fail
   refine (HV.out _ B0.out).mono ?_
   rintro e w1 ⟨rfl, hb1⟩
   have HA1 := hJ (HA0.out.below hb1 HA0.out.lt); have HR1 := hJ (HR0.out.below hb1 HR0.out.lt)
   have HW1 : Hid (Below w.heap.size w w1) := hJ (B0.out.trans (hb1.mono B0.out.size))
   have hz1 : w.heap.size + 2 ≤ w1.heap.size := by have := hb1.size; simpa using this
   clear xa0 xa1 xa2 xa3 xa4 xb0 xb1 xb2 xb3 xb4 hb1 HR0 HA0 B0 HV hW0; have y0 := HA1.out.cell 0 _ rfl; have y1 := HA1.out.cell 1 _ rfl; have y2 := HA1.out.cell 2 _ rfl; have y3 := HA1.out.cell 3 _ rfl; have y4 := HA1.out.cell 4 _ rfl; have hl1 := HA1.out.lt
   have HBa : Hid (Below w1.heap.size w1 (w1.alloc (.cells #[.int .i64 0, .int .i64 0, .int .i64 0, .int .i64 0] 100))) := hJ ((Below.refl _ _).alloc (Nat.le_refl _) _)
   go_wp2_with fail
   refine (HCV.out _ (HW1.out.trans (HBa.out.mono HW1.out.size))).mono ?_
   rintro e w2 ⟨⟨v, rfl, hown⟩, hb2⟩
   obtain ⟨a5, c5, rfl, _⟩ := hown.sl; have HB2 := hJ (HBa.out.trans (hb2.mono HBa.out.size))
   have HG2 : Hid (Bx w2 w1.heap.size 100 (cntV L 0)) := hJ (by rw [cntV_zero]; exact (Bx.fresh w1 100 [.int .i64 0, .int .i64 0, .int .i64 0, .int .i64 0]).below hb2 (by simp))
   have HA2 := hJ (HA1.out.below HB2.out HA1.out.lt); have HR2 := hJ (HR1.out.below HB2.out HR1.out.lt); have HW2 := hJ (HW1.out.trans (HB2.out.mono HW1.out.size))
   have hz2 : w1.heap.size + 1 ≤ w2.heap.size := by have := hb2.size; simpa using this
   have HO2 : Hid (Own RBnd 103 (fun q => w2.heap.size ≤ q) w2 (w1.heap.size + 1) (.slice a5 L.length c5) (kEM L 0)) := hJ (by have := hown.mono (S' := fun q => w2.heap.size ≤ q) (fun k hk _ => hk.elim); simpa [renUp_zero] using this)
   have HSm : L.length ≤ 3000 := HLen.out
   clear hown hb2 y0 y1 y2 y3 y4 HCV HA1 HR1 hl1 HBa
   generalize hn : L.length = n at *
   have HN := hJ hn; clear hn
   go_wp2_with fail
   go_loopw [19] (fun iv wr => ∃ k : Nat, k ≤ n ∧ iv = .int .i64 k ∧ Hid (Own RBnd 103 (fun q => w2.heap.size ≤ q) wr (w1.heap.size + 1) (.slice a5 n c5) (kEM L k)) ∧ Hid (Bx wr w1.heap.size 100 (cntV L k)) ∧ Hid (∀ q, q < w2.heap.size → q ≠ w1.heap.size → (Value.slice a5 n c5).ownBlock ≠ some q → wr.heap[q]? = w2.heap[q]?) ∧ Below w.heap.size w wr ∧ w2.heap.size ≤ wr.heap.size) (fun iv _ => n - (intOf iv).toNat)
   case atStart => exact ⟨0, Nat.zero_le _, rfl, HO2, HG2, hJ (fun _ _ _ _ => rfl), HW2.out, Nat.le_refl _⟩
   case round =>
    obtain ⟨k, hk, rfl, HO, HG, HK, hB, hsz⟩ := hrel
    by_cases hlt : k < n
    · have hkl : k < L.length := by rw [HN.out]; exact hlt
      obtain ⟨gb, c', css, rest, hv, hgb, hR, hL, hlc, hcm, hsl⟩ := HO.out.raw (by rw [kC7 (by omega)]; omega)
      rw [Value.slice.injEq] at hv; obtain ⟨rfl, -, rfl⟩ := hv
      rw [kC7 (by omega), HN.out] at hlc
      obtain ⟨cs, hi, hr⟩ := hL.2 k _ (renUp_at hkl); have HGood2 := hJ (HInv.out.good _ (kAI hkl)); have HRen := hJ (renAt1 hkl HGood2.out.1); have HNext := hJ (renUp_next hkl)
      have hL3 : L.length ≤ 3000 := by rw [HN.out]; exact HSm
      have hc1 := cnt_bd hL3 1 k; have hc2 := cnt_bd hL3 2 k; have hc3 := cnt_bd hL3 3 k
      have HCV0 : Hid (cntV L k = [.int .i64 0, .int .i64 (cntK 1 (L.take k)), .int .i64 (cntK 2 (L.take k)), .int .i64 (cntK 3 (L.take k))]) := hJ rfl
      obtain ⟨kd, nv, hx⟩ : ∃ kd nv, L.getD k default = ⟨kd, nv, ⟨0, []⟩, ⟨⟨#[]⟩, []⟩, ⟨#[]⟩⟩ := ⟨_, _, HGood2.out.1⟩; rw [hx] at HRen HGood2 hr; obtain ⟨t, d, rfl, ⟨ta, tc, rfl, hta⟩, ⟨da, dc, rfl, hda⟩⟩ := hr
      have hi : css[k]? = some [.int .i64 kd, .string nv, .int .i64 0, .slice ta 0 tc, .string ⟨#[]⟩, .slice da 0 dc, .string ⟨#[]⟩] := hi
      have HI := hJ hi
      have HTa : Hid (tc ≤ maxLen ∧ (ta = none → tc = 0)) := hJ ⟨hta.max, hta.nil⟩
      have HDa : Hid (dc ≤ maxLen ∧ (da = none → dc = 0)) := hJ ⟨hda.max, hda.nil⟩
      have hok := HGood2.out.2
      have HR : Hid (Raw 7 103 wr gb css rest) := hJ hR
      have HL := hJ hL
      have HSl : Hid (css.length * 7 + rest.length = c5 * 7) := hJ hsl
      have hgl := hR.lt
      have hgne : w1.heap.size ≠ gb := by omega
      obtain ⟨y, hy⟩ : ∃ y, kE0 L k = y := ⟨_, rfl⟩; have HYe := hJ hy; rw [hy] at HNext; obtain ⟨n1, hn1⟩ : ∃ q, cntK 1 (L.take k) = q := ⟨_, rfl⟩; obtain ⟨n2, hn2⟩ : ∃ q, cntK 2 (L.take k) = q := ⟨_, rfl⟩; obtain ⟨n3, hn3'⟩ : ∃ q, cntK 3 (L.take k) = q := ⟨_, rfl⟩
      have HCe : Hid (cntK 1 (L.take k) = n1 ∧ cntK 2 (L.take k) = n2 ∧ cntK 3 (L.take k) = n3) := hJ ⟨hn1, hn2, hn3'⟩
      rw [hn1] at hc1; rw [hn2] at hc2; rw [hn3'] at hc3; rw [hn1, hn2, hn3'] at HCV0; have HGq := hJ (HCV0.out ▸ HG.out)
      have HOl : Hid (∀ q, q < w2.heap.size → (Value.slice (some ⟨gb, 0, none⟩) n c5).ownBlock ≠ some q → q ≠ gb) := hJ (fun q _ h e => h (by rw [e]; rfl))
      clear hn1 hn2 hn3' hx hkl hta hda hR hL hsl hi hL3 HGood2 hy HO HG
      rcases hok with ⟨hok, hnm⟩ | ⟨hok, hnm⟩ | ⟨hok, hnm⟩
      · skip
        have hkd : kd = 1 := hok
        subst hkd; have HR1' := hJ (HRen.out.at1 rfl); rw [HCe.out.1] at HR1'; clear HRen; have e0 := HR.out.cell HI.out 0 _ rfl; rw [Nat.add_zero] at e0; have g1 := HGq.out.cell 1 _ rfl; have v1 := HGq.out.fz 1; have HGb := hJ (HGq.out.set 1 (.int .i64 ((n1 : Int) + 1)))
        have HRb : Hid (Raw 7 103 (wr.setCell ⟨w1.heap.size, 1, none⟩ (.int .i64 ((n1 : Int) + 1))) gb css rest) := hJ (HR.out.other (by show w1.heap.size ≠ gb; exact hgne))
        have HKb : Hid (∀ q, q < wr.heap.size → q ≠ w1.heap.size → (wr.setCell ⟨w1.heap.size, 1, none⟩ (.int .i64 ((n1 : Int) + 1))).heap[q]? = wr.heap[q]?) := hJ (fun q hq hne => kAA (fun e => hne e.symm))
        have HBb : Hid (Below w.heap.size w (wr.setCell ⟨w1.heap.size, 1, none⟩ (.int .i64 ((n1 : Int) + 1)))) := hJ (hB.setCell (by show w.heap.size ≤ w1.heap.size; omega) _)
        have HZb : Hid ((wr.setCell ⟨w1.heap.size, 1, none⟩ (.int .i64 ((n1 : Int) + 1))).heap.size = wr.heap.size) := hJ (by simp)
        go_wp2_with fail
        have f0 := HRb.out.cell HI.out 0 _ rfl; have h1 := HGb.out.cell 1 _ rfl; rw [Nat.add_zero] at f0; clear e0 g1 v1
        generalize (wr.setCell ⟨w1.heap.size, 1, none⟩ (.int .i64 ((n1 : Int) + 1))) = wb at *
        have HIt : Hid (∀ t : Later wb, Calls Tryz.prog 56 #[.int .i64 ((n1 : Int) + 1)] t.w fun e w' => e = .returned (.string (decS (n1 + 1))) ∧ Below t.w.heap.size t.w w') := hJ (fun t => by
         have h := itoa_nat (n1 + 1) (by omega) t.w ((HE.out wb HBb.out).at_ t)
         rwa [Int.natCast_add, Int.natCast_one] at h)
        have hds : (decS (n1 + 1)).size ≤ 6 := by
         show (Lib.decDigits (n1 + 1)).length ≤ 6
         exact kEV 5 _ (by omega)
        have HNm : Hid (∀ c : UInt8, (⟨#[c]⟩ : Str) ++ decS (n1 + 1) = nm c (n1 + 1)) := hJ (fun c => rfl)
        generalize decS (n1 + 1) = dd at *
        have F0 := Later.cell f0; have H1 := Later.cell h1; clear f0 h1
        have hix : ∀ W : World, (Instr.index 104 (.agg #[.string ⟨#[]⟩, .string ⟨#[110]⟩, .string ⟨#[114]⟩, .string ⟨#[65]⟩]) (.int .i64 1)).run Tryz.prog W = .ok (.string ⟨#[110]⟩) W := fun W => by kernel_rfl
        refine kAB (by kernel_rfl) (by kernel_rfl) ?_
        repeat (go_big_quiet_step (first | fail | exact Later.call (HIt.out _)))
        refine wpQuiet_nil ?_
        rintro _ ⟨t9, rfl⟩
        have HBq : Hid (Below wb.heap.size wb t9.w) := hJ t9.b
        generalize t9.w = wq at *
        clear F0 H1 HIt
        have hzb : wb.heap.size = wr.heap.size := HZb.out
        have hzq := HBq.out.size; rw [hzb] at hzq; have HRq := hJ (HRb.out.below HBq.out HRb.out.lt); have HGq2 := hJ (HGb.out.below HBq.out HGb.out.lt)
        have HKq : Hid (∀ q, q < wr.heap.size → q ≠ w1.heap.size → wq.heap[q]? = wr.heap[q]?) := hJ (fun q hq hne => (HBq.out.block q (by rw [HZb.out]; exact hq)).trans (HKb.out q hq hne))
        have HBw : Hid (Below w.heap.size w wq) := hJ (HBb.out.trans (HBq.out.mono HBb.out.size))
        have p0 := HRq.out.cell HI.out 0 _ rfl; rw [Nat.add_zero] at p0; clear hzb HRb HGb HKb HBb HBq HZb HR HGq
        go_wp2_with fail
        refine (linear_Var ((⟨#[110]⟩ : Str) ++ dd) wq).mono ?_
        rintro e w5 ⟨⟨_, rfl, hr5⟩, hb5⟩
        obtain ⟨_, rfl, a9, c9, rfl, hs9⟩ := hr5; have HS9 := hJ hs9; have HR5 := hJ (HRq.out.below hb5 HRq.out.lt); have c2 := HR5.out.cell HI.out 2 _ rfl; have c3 := HR5.out.cell HI.out 3 _ rfl; have v2 := HR5.out.fz (k * 7 + 2); have v3 := HR5.out.fz (k * 7 + 3); have hz5 := hb5.size
        have HRd : Hid (Raw 7 103 ((w5.setCell ⟨gb, k * 7 + 2, none⟩ (.int .i64 0)).setCell ⟨gb, k * 7 + 3, none⟩ (.slice a9 1 c9)) gb (css.set k [.int .i64 1, .string nv, .int .i64 0, .slice a9 1 c9, .string ⟨#[]⟩, .slice da 0 dc, .string ⟨#[]⟩]) rest) := hJ (HR5.out.set2 HI.out (by decide) (by decide) (.int .i64 0) (.slice a9 1 c9))
        have HGd := hJ (((HGq2.out.below hb5 HGq2.out.lt).other (a := ⟨gb, k * 7 + 2, none⟩) (u := .int .i64 0) (by show gb ≠ w1.heap.size; omega)).other (a := ⟨gb, k * 7 + 3, none⟩) (u := .slice a9 1 c9) (by show gb ≠ w1.heap.size; omega))
        have HKd : Hid (∀ q, q < wr.heap.size → q ≠ w1.heap.size → q ≠ gb → ((w5.setCell ⟨gb, k * 7 + 2, none⟩ (.int .i64 0)).setCell ⟨gb, k * 7 + 3, none⟩ (.slice a9 1 c9)).heap[q]? = wr.heap[q]?) := hJ (fun q hq hne hg => (kAA (fun e => hg e.symm)).trans ((kAA (fun e => hg e.symm)).trans ((hb5.block q (by omega)).trans (HKq.out q hq hne))))
        have HBd : Hid (Below w.heap.size w ((w5.setCell ⟨gb, k * 7 + 2, none⟩ (.int .i64 0)).setCell ⟨gb, k * 7 + 3, none⟩ (.slice a9 1 c9))) := hJ (((HBw.out.trans (hb5.mono HBw.out.size)).setCell (by show w.heap.size ≤ gb; omega) _).setCell (by show w.heap.size ≤ gb; omega) _)
        have HZd : Hid (w2.heap.size ≤ ((w5.setCell ⟨gb, k * 7 + 2, none⟩ (.int .i64 0)).setCell ⟨gb, k * 7 + 3, none⟩ (.slice a9 1 c9)).heap.size) := hJ (by simp; omega)
        have HRY : Hid (RBnd.rd (fun q => w2.heap.size ≤ q ∧ q ≠ gb) ((w5.setCell ⟨gb, k * 7 + 2, none⟩ (.int .i64 0)).setCell ⟨gb, k * 7 + 3, none⟩ (.slice a9 1 c9)) [.int .i64 1, .string nv, .int .i64 0, .slice a9 1 c9, .string ⟨#[]⟩, .slice da 0 dc, .string ⟨#[]⟩] y) := hJ (by
         rw [← HYe.out, HR1'.out.1, ← HNm.out]
         refine ⟨_, _, rfl, ⟨a9, c9, rfl, ?_⟩, ⟨da, dc, rfl, Sl.zero HDa.out.1 HDa.out.2⟩⟩
         have hne : ∀ q, wq.heap.size ≤ q → gb ≠ q := fun q hq => by omega
         exact ((HS9.out.set (hne)).set hne).mono (fun q hq _ => ⟨by have hq : wq.heap.size ≤ q := hq; omega, fun e => hne q hq e.symm⟩))
        clear hs9
        have HLz : Hid (Lies RBnd (fun q => w2.heap.size ≤ q) ((w5.setCell ⟨gb, k * 7 + 2, none⟩ (.int .i64 0)).setCell ⟨gb, k * 7 + 3, none⟩ (.slice a9 1 c9)) gb (css.set k [.int .i64 1, .string nv, .int .i64 0, .slice a9 1 c9, .string ⟨#[]⟩, .slice da 0 dc, .string ⟨#[]⟩]) (kEM L (k + 1))) := hJ (by
         rw [HNext.out]
         exact (HL.out.frame (w' := ((w5.setCell ⟨gb, k * 7 + 2, none⟩ (.int .i64 0)).setCell ⟨gb, k * 7 + 3, none⟩ (.slice a9 1 c9))) (fun q hq hne hlt => HKd.out q hlt (by have : w2.heap.size ≤ q := hq; omega) hne)).set k HRY.out)
        have HOz : Hid (Own RBnd 103 (fun q => w2.heap.size ≤ q) ((w5.setCell ⟨gb, k * 7 + 2, none⟩ (.int .i64 0)).setCell ⟨gb, k * 7 + 3, none⟩ (.slice a9 1 c9)) (w1.heap.size + 1) (.slice (some ⟨gb, 0, none⟩) n c5) (kEM L (k + 1))) := hJ (by
         have h := HRd.out.own HLz.out hgb (by rw [kC7 (by rw [HN.out]; omega), HN.out]; exact hlc) hcm (by rw [List.length_set]; exact HSl.out)
         rwa [kC7 (by rw [HN.out]; omega), HN.out] at h)
        have HGz : Hid (Bx ((w5.setCell ⟨gb, k * 7 + 2, none⟩ (.int .i64 0)).setCell ⟨gb, k * 7 + 3, none⟩ (.slice a9 1 c9)) w1.heap.size 100 (cntV L (k + 1))) := hJ (by rw [HR1'.out.2, HCV0.out]; exact HGd.out)
        have HKz : Hid (∀ q, q < w2.heap.size → q ≠ w1.heap.size → (Value.slice (some ⟨gb, 0, none⟩) n c5).ownBlock ≠ some q → ((w5.setCell ⟨gb, k * 7 + 2, none⟩ (.int .i64 0)).setCell ⟨gb, k * 7 + 3, none⟩ (.slice a9 1 c9)).heap[q]? = w2.heap[q]?) := hJ (fun q hq hne ho => (HKd.out q (by omega) hne (HOl.out q hq ho)).trans (HK.out q hq hne ho))
        go_wp2_with fail
        go_roundw
        case rel => exact ⟨k + 1, by omega, by go_num, HOz, HGz, HKz, HBd.out, HZd.out⟩
        case measure => simp [intOf]; omega
      · skip
        have hkd : kd = 2 := hok
        subst hkd; have HR1' := hJ (HRen.out.at2 rfl); rw [HCe.out.2.1] at HR1'; clear HRen; have e0 := HR.out.cell HI.out 0 _ rfl; rw [Nat.add_zero] at e0; have g1 := HGq.out.cell 2 _ rfl; have v1 := HGq.out.fz 2; have HGb := hJ (HGq.out.set 2 (.int .i64 ((n2 : Int) + 1)))
        have HRb : Hid (Raw 7 103 (wr.setCell ⟨w1.heap.size, 2, none⟩ (.int .i64 ((n2 : Int) + 1))) gb css rest) := hJ (HR.out.other (by show w1.heap.size ≠ gb; exact hgne))
        have HKb : Hid (∀ q, q < wr.heap.size → q ≠ w1.heap.size → (wr.setCell ⟨w1.heap.size, 2, none⟩ (.int .i64 ((n2 : Int) + 1))).heap[q]? = wr.heap[q]?) := hJ (fun q hq hne => kAA (fun e => hne e.symm))
        have HBb : Hid (Below w.heap.size w (wr.setCell ⟨w1.heap.size, 2, none⟩ (.int .i64 ((n2 : Int) + 1)))) := hJ (hB.setCell (by show w.heap.size ≤ w1.heap.size; omega) _)
        have HZb : Hid ((wr.setCell ⟨w1.heap.size, 2, none⟩ (.int .i64 ((n2 : Int) + 1))).heap.size = wr.heap.size) := hJ (by simp)
        go_wp2_with fail
        have f0 := HRb.out.cell HI.out 0 _ rfl; have h1 := HGb.out.cell 2 _ rfl; rw [Nat.add_zero] at f0; clear e0 g1 v1
        generalize (wr.setCell ⟨w1.heap.size, 2, none⟩ (.int .i64 ((n2 : Int) + 1))) = wb at *
        have HIt : Hid (∀ t : Later wb, Calls Tryz.prog 56 #[.int .i64 ((n2 : Int) + 1)] t.w fun e w' => e = .returned (.string (decS (n2 + 1))) ∧ Below t.w.heap.size t.w w') := hJ (fun t => by
         have h := itoa_nat (n2 + 1) (by omega) t.w ((HE.out wb HBb.out).at_ t)
         rwa [Int.natCast_add, Int.natCast_one] at h)
        have hds : (decS (n2 + 1)).size ≤ 6 := by
         show (Lib.decDigits (n2 + 1)).length ≤ 6
         exact kEV 5 _ (by omega)
        have HNm : Hid (∀ c : UInt8, (⟨#[c]⟩ : Str) ++ decS (n2 + 1) = nm c (n2 + 1)) := hJ (fun c => rfl)
        generalize decS (n2 + 1) = dd at *
        have F0 := Later.cell f0; have H1 := Later.cell h1; clear f0 h1
        have hix : ∀ W : World, (Instr.index 104 (.agg #[.string ⟨#[]⟩, .string ⟨#[110]⟩, .string ⟨#[114]⟩, .string ⟨#[65]⟩]) (.int .i64 2)).run Tryz.prog W = .ok (.string ⟨#[114]⟩) W := fun W => by kernel_rfl
        refine kAB (by kernel_rfl) (by kernel_rfl) ?_
        repeat (go_big_quiet_step (first | fail | exact Later.call (HIt.out _)))
        refine wpQuiet_nil ?_
        rintro _ ⟨t9, rfl⟩
        have HBq : Hid (Below wb.heap.size wb t9.w) := hJ t9.b
        generalize t9.w = wq at *
        clear F0 H1 HIt
        have hzb : wb.heap.size = wr.heap.size := HZb.out
        have hzq := HBq.out.size; rw [hzb] at hzq; have HRq := hJ (HRb.out.below HBq.out HRb.out.lt); have HGq2 := hJ (HGb.out.below HBq.out HGb.out.lt)
        have HKq : Hid (∀ q, q < wr.heap.size → q ≠ w1.heap.size → wq.heap[q]? = wr.heap[q]?) := hJ (fun q hq hne => (HBq.out.block q (by rw [HZb.out]; exact hq)).trans (HKb.out q hq hne))
        have HBw : Hid (Below w.heap.size w wq) := hJ (HBb.out.trans (HBq.out.mono HBb.out.size))
        have p0 := HRq.out.cell HI.out 0 _ rfl; rw [Nat.add_zero] at p0; clear hzb HRb HGb HKb HBb HBq HZb HR HGq; have c4 := HRq.out.cell HI.out 4 _ rfl; have v4 := HRq.out.fz (k * 7 + 4)
        have HRd : Hid (Raw 7 103 (wq.setCell ⟨gb, k * 7 + 4, none⟩ (.string ((⟨#[114]⟩ : Str) ++ dd))) gb (css.set k [.int .i64 2, .string nv, .int .i64 0, .slice ta 0 tc, .string ((⟨#[114]⟩ : Str) ++ dd), .slice da 0 dc, .string ⟨#[]⟩]) rest) := hJ (HRq.out.set HI.out (j := 4) (by decide) _)
        have HGd := hJ (HGq2.out.other (a := ⟨gb, k * 7 + 4, none⟩) (u := .string ((⟨#[114]⟩ : Str) ++ dd)) (by show gb ≠ w1.heap.size; omega))
        have HKd : Hid (∀ q, q < wr.heap.size → q ≠ w1.heap.size → q ≠ gb → (wq.setCell ⟨gb, k * 7 + 4, none⟩ (.string ((⟨#[114]⟩ : Str) ++ dd))).heap[q]? = wr.heap[q]?) := hJ (fun q hq hne hg => (kAA (fun e => hg e.symm)).trans (HKq.out q hq hne))
        have HBd : Hid (Below w.heap.size w (wq.setCell ⟨gb, k * 7 + 4, none⟩ (.string ((⟨#[114]⟩ : Str) ++ dd)))) := hJ (HBw.out.setCell (by show w.heap.size ≤ gb; omega) _)
        have HZd : Hid (w2.heap.size ≤ (wq.setCell ⟨gb, k * 7 + 4, none⟩ (.string ((⟨#[114]⟩ : Str) ++ dd))).heap.size) := hJ (by simp; omega)
        have HRY : Hid (RBnd.rd (fun q => w2.heap.size ≤ q ∧ q ≠ gb) (wq.setCell ⟨gb, k * 7 + 4, none⟩ (.string ((⟨#[114]⟩ : Str) ++ dd))) [.int .i64 2, .string nv, .int .i64 0, .slice ta 0 tc, .string ((⟨#[114]⟩ : Str) ++ dd), .slice da 0 dc, .string ⟨#[]⟩] y) := hJ (by
         rw [← HYe.out, HR1'.out.1, ← HNm.out]
         exact ⟨_, _, rfl, ⟨ta, tc, rfl, Sl.zero HTa.out.1 HTa.out.2⟩, ⟨da, dc, rfl, Sl.zero HDa.out.1 HDa.out.2⟩⟩)
        have HLz : Hid (Lies RBnd (fun q => w2.heap.size ≤ q) (wq.setCell ⟨gb, k * 7 + 4, none⟩ (.string ((⟨#[114]⟩ : Str) ++ dd))) gb (css.set k [.int .i64 2, .string nv, .int .i64 0, .slice ta 0 tc, .string ((⟨#[114]⟩ : Str) ++ dd), .slice da 0 dc, .string ⟨#[]⟩]) (kEM L (k + 1))) := hJ (by
         rw [HNext.out]
         exact (HL.out.frame (w' := (wq.setCell ⟨gb, k * 7 + 4, none⟩ (.string ((⟨#[114]⟩ : Str) ++ dd)))) (fun q hq hne hlt => HKd.out q hlt (by have : w2.heap.size ≤ q := hq; omega) hne)).set k HRY.out)
        have HOz : Hid (Own RBnd 103 (fun q => w2.heap.size ≤ q) (wq.setCell ⟨gb, k * 7 + 4, none⟩ (.string ((⟨#[114]⟩ : Str) ++ dd))) (w1.heap.size + 1) (.slice (some ⟨gb, 0, none⟩) n c5) (kEM L (k + 1))) := hJ (by
         have h := HRd.out.own HLz.out hgb (by rw [kC7 (by rw [HN.out]; omega), HN.out]; exact hlc) hcm (by rw [List.length_set]; exact HSl.out)
         rwa [kC7 (by rw [HN.out]; omega), HN.out] at h)
        have HGz : Hid (Bx (wq.setCell ⟨gb, k * 7 + 4, none⟩ (.string ((⟨#[114]⟩ : Str) ++ dd))) w1.heap.size 100 (cntV L (k + 1))) := hJ (by rw [HR1'.out.2, HCV0.out]; exact HGd.out)
        have HKz : Hid (∀ q, q < w2.heap.size → q ≠ w1.heap.size → (Value.slice (some ⟨gb, 0, none⟩) n c5).ownBlock ≠ some q → (wq.setCell ⟨gb, k * 7 + 4, none⟩ (.string ((⟨#[114]⟩ : Str) ++ dd))).heap[q]? = w2.heap[q]?) := hJ (fun q hq hne ho => (HKd.out q (by omega) hne (HOl.out q hq ho)).trans (HK.out q hq hne ho))
        go_wp2_with fail
        go_roundw
        case rel => exact ⟨k + 1, by omega, by go_num, HOz, HGz, HKz, HBd.out, HZd.out⟩
        case measure => simp [intOf]; omega
      · skip
        have hkd : kd = 3 := hok
        subst hkd; have HR1' := hJ (HRen.out.at3 rfl); rw [HCe.out.2.2] at HR1'; clear HRen; have e0 := HR.out.cell HI.out 0 _ rfl; rw [Nat.add_zero] at e0; have g1 := HGq.out.cell 3 _ rfl; have v1 := HGq.out.fz 3; have HGb := hJ (HGq.out.set 3 (.int .i64 ((n3 : Int) + 1)))
        have HRb : Hid (Raw 7 103 (wr.setCell ⟨w1.heap.size, 3, none⟩ (.int .i64 ((n3 : Int) + 1))) gb css rest) := hJ (HR.out.other (by show w1.heap.size ≠ gb; exact hgne))
        have HKb : Hid (∀ q, q < wr.heap.size → q ≠ w1.heap.size → (wr.setCell ⟨w1.heap.size, 3, none⟩ (.int .i64 ((n3 : Int) + 1))).heap[q]? = wr.heap[q]?) := hJ (fun q hq hne => kAA (fun e => hne e.symm))
        have HBb : Hid (Below w.heap.size w (wr.setCell ⟨w1.heap.size, 3, none⟩ (.int .i64 ((n3 : Int) + 1)))) := hJ (hB.setCell (by show w.heap.size ≤ w1.heap.size; omega) _)
        have HZb : Hid ((wr.setCell ⟨w1.heap.size, 3, none⟩ (.int .i64 ((n3 : Int) + 1))).heap.size = wr.heap.size) := hJ (by simp)
        go_wp2_with fail
        have f0 := HRb.out.cell HI.out 0 _ rfl; have h1 := HGb.out.cell 3 _ rfl; rw [Nat.add_zero] at f0; clear e0 g1 v1
        generalize (wr.setCell ⟨w1.heap.size, 3, none⟩ (.int .i64 ((n3 : Int) + 1))) = wb at *
        have HIt : Hid (∀ t : Later wb, Calls Tryz.prog 56 #[.int .i64 ((n3 : Int) + 1)] t.w fun e w' => e = .returned (.string (decS (n3 + 1))) ∧ Below t.w.heap.size t.w w') := hJ (fun t => by
         have h := itoa_nat (n3 + 1) (by omega) t.w ((HE.out wb HBb.out).at_ t)
         rwa [Int.natCast_add, Int.natCast_one] at h)
        have hds : (decS (n3 + 1)).size ≤ 6 := by
         show (Lib.decDigits (n3 + 1)).length ≤ 6
         exact kEV 5 _ (by omega)
        have HNm : Hid (∀ c : UInt8, (⟨#[c]⟩ : Str) ++ decS (n3 + 1) = nm c (n3 + 1)) := hJ (fun c => rfl)
        generalize decS (n3 + 1) = dd at *
        have F0 := Later.cell f0; have H1 := Later.cell h1; clear f0 h1
        have hix : ∀ W : World, (Instr.index 104 (.agg #[.string ⟨#[]⟩, .string ⟨#[110]⟩, .string ⟨#[114]⟩, .string ⟨#[65]⟩]) (.int .i64 3)).run Tryz.prog W = .ok (.string ⟨#[65]⟩) W := fun W => by kernel_rfl
        refine kAB (by kernel_rfl) (by kernel_rfl) ?_
        repeat (go_big_quiet_step (first | fail | exact Later.call (HIt.out _)))
        refine wpQuiet_nil ?_
        rintro _ ⟨t9, rfl⟩
        have HBq : Hid (Below wb.heap.size wb t9.w) := hJ t9.b
        generalize t9.w = wq at *
        clear F0 H1 HIt
        have hzb : wb.heap.size = wr.heap.size := HZb.out
        have hzq := HBq.out.size; rw [hzb] at hzq; have HRq := hJ (HRb.out.below HBq.out HRb.out.lt); have HGq2 := hJ (HGb.out.below HBq.out HGb.out.lt)
        have HKq : Hid (∀ q, q < wr.heap.size → q ≠ w1.heap.size → wq.heap[q]? = wr.heap[q]?) := hJ (fun q hq hne => (HBq.out.block q (by rw [HZb.out]; exact hq)).trans (HKb.out q hq hne))
        have HBw : Hid (Below w.heap.size w wq) := hJ (HBb.out.trans (HBq.out.mono HBb.out.size))
        have p0 := HRq.out.cell HI.out 0 _ rfl; rw [Nat.add_zero] at p0; clear hzb HRb HGb HKb HBb HBq HZb HR HGq; have c6 := HRq.out.cell HI.out 6 _ rfl; have v6 := HRq.out.fz (k * 7 + 6)
        have HRd : Hid (Raw 7 103 (wq.setCell ⟨gb, k * 7 + 6, none⟩ (.string ((⟨#[65]⟩ : Str) ++ dd))) gb (css.set k [.int .i64 3, .string nv, .int .i64 0, .slice ta 0 tc, .string ⟨#[]⟩, .slice da 0 dc, .string ((⟨#[65]⟩ : Str) ++ dd)]) rest) := hJ (HRq.out.set HI.out (j := 6) (by decide) _)
        have HGd := hJ (HGq2.out.other (a := ⟨gb, k * 7 + 6, none⟩) (u := .string ((⟨#[65]⟩ : Str) ++ dd)) (by show gb ≠ w1.heap.size; omega))
        have HKd : Hid (∀ q, q < wr.heap.size → q ≠ w1.heap.size → q ≠ gb → (wq.setCell ⟨gb, k * 7 + 6, none⟩ (.string ((⟨#[65]⟩ : Str) ++ dd))).heap[q]? = wr.heap[q]?) := hJ (fun q hq hne hg => (kAA (fun e => hg e.symm)).trans (HKq.out q hq hne))
        have HBd : Hid (Below w.heap.size w (wq.setCell ⟨gb, k * 7 + 6, none⟩ (.string ((⟨#[65]⟩ : Str) ++ dd)))) := hJ (HBw.out.setCell (by show w.heap.size ≤ gb; omega) _)
        have HZd : Hid (w2.heap.size ≤ (wq.setCell ⟨gb, k * 7 + 6, none⟩ (.string ((⟨#[65]⟩ : Str) ++ dd))).heap.size) := hJ (by simp; omega)
        have HRY : Hid (RBnd.rd (fun q => w2.heap.size ≤ q ∧ q ≠ gb) (wq.setCell ⟨gb, k * 7 + 6, none⟩ (.string ((⟨#[65]⟩ : Str) ++ dd))) [.int .i64 3, .string nv, .int .i64 0, .slice ta 0 tc, .string ⟨#[]⟩, .slice da 0 dc, .string ((⟨#[65]⟩ : Str) ++ dd)] y) := hJ (by
         rw [← HYe.out, HR1'.out.1, ← HNm.out]
         exact ⟨_, _, rfl, ⟨ta, tc, rfl, Sl.zero HTa.out.1 HTa.out.2⟩, ⟨da, dc, rfl, Sl.zero HDa.out.1 HDa.out.2⟩⟩)
        have HLz : Hid (Lies RBnd (fun q => w2.heap.size ≤ q) (wq.setCell ⟨gb, k * 7 + 6, none⟩ (.string ((⟨#[65]⟩ : Str) ++ dd))) gb (css.set k [.int .i64 3, .string nv, .int .i64 0, .slice ta 0 tc, .string ⟨#[]⟩, .slice da 0 dc, .string ((⟨#[65]⟩ : Str) ++ dd)]) (kEM L (k + 1))) := hJ (by
         rw [HNext.out]
         exact (HL.out.frame (w' := (wq.setCell ⟨gb, k * 7 + 6, none⟩ (.string ((⟨#[65]⟩ : Str) ++ dd)))) (fun q hq hne hlt => HKd.out q hlt (by have : w2.heap.size ≤ q := hq; omega) hne)).set k HRY.out)
        have HOz : Hid (Own RBnd 103 (fun q => w2.heap.size ≤ q) (wq.setCell ⟨gb, k * 7 + 6, none⟩ (.string ((⟨#[65]⟩ : Str) ++ dd))) (w1.heap.size + 1) (.slice (some ⟨gb, 0, none⟩) n c5) (kEM L (k + 1))) := hJ (by
         have h := HRd.out.own HLz.out hgb (by rw [kC7 (by rw [HN.out]; omega), HN.out]; exact hlc) hcm (by rw [List.length_set]; exact HSl.out)
         rwa [kC7 (by rw [HN.out]; omega), HN.out] at h)
        have HGz : Hid (Bx (wq.setCell ⟨gb, k * 7 + 6, none⟩ (.string ((⟨#[65]⟩ : Str) ++ dd))) w1.heap.size 100 (cntV L (k + 1))) := hJ (by rw [HR1'.out.2, HCV0.out]; exact HGd.out)
        have HKz : Hid (∀ q, q < w2.heap.size → q ≠ w1.heap.size → (Value.slice (some ⟨gb, 0, none⟩) n c5).ownBlock ≠ some q → (wq.setCell ⟨gb, k * 7 + 6, none⟩ (.string ((⟨#[65]⟩ : Str) ++ dd))).heap[q]? = w2.heap[q]?) := hJ (fun q hq hne ho => (HKd.out q (by omega) hne (HOl.out q hq ho)).trans (HK.out q hq hne ho))
        go_wp2_with fail
        go_roundw
        case rel => exact ⟨k + 1, by omega, by go_num, HOz, HGz, HKz, HBd.out, HZd.out⟩
        case measure => simp [intOf]; omega
    · obtain rfl : k = n := by omega
      have HAll : kEM L k = ren L := by rw [← HN.out]; exact renUp_all L
      have hO := HO.out; rw [HAll] at hO; obtain ⟨_, _, hv, hsl⟩ := hO.sl; rw [Value.slice.injEq] at hv; obtain ⟨rfl, hkr, rfl⟩ := hv; have HCw := hJ (HCS.out wr hB _ a5 _ c5 hsl); rw [← hkr] at HCw
      have hne1 : (Value.slice a5 k c5).ownBlock ≠ some w.heap.size := HO.out.ne (by omega)
      have hne2 : (Value.slice a5 k c5).ownBlock ≠ some (w.heap.size + 1) := HO.out.ne (by omega)
      have HAr : Hid (Bx wr _ _ _) := hJ ((HK.out w.heap.size (by omega) (by omega) hne1).trans HA2.out)
      have HRr : Hid (Bx wr _ _ _) := hJ ((HK.out (w.heap.size + 1) (by omega) (by omega) hne2).trans HR2.out)
      have y0 := HAr.out.cell 0 _ rfl; have y1 := HAr.out.cell 1 _ rfl; have y2 := HAr.out.cell 2 _ rfl; have y3 := HAr.out.cell 3 _ rfl; have y4 := HAr.out.cell 4 _ rfl; have HBr := hJ hB
      have hzr : w.heap.size + 2 ≤ wr.heap.size := by omega
      clear HAll hO hsl hkr hne1 hne2 HO HG HK hB HO2 HG2 HCS HA2 HR2 HB2
      generalize hbb : ren L = b at *
      clear hbb
      cases hok : kBN b s with
      | false =>
        have HBd := hJ (HBad.out hok); rw [(sch_no hok).2, (sch_no hok).1] at HCw; clear hok HGood HBad
        go_wp2_with fail
        refine HCw.out.mono ?_
        rintro e w3 ⟨⟨ds, rfl, hos⟩, hb3⟩
        obtain ⟨base, p, t, q, hb0, rfl, ⟨ap3, cp3, rfl, _⟩, ⟨at3, ct3, rfl, _⟩, hq⟩ := hos; obtain ⟨aq3, cq3, rfl, _⟩ := hq.sl; obtain ⟨w7, hfold7⟩ : ∃ q, w3.alloc (.cells #[.slice ap3 kCQ.params.length cp3, .string kCQ.result.elem, .string kCQ.result.shape.row, .slice at3 kCQ.result.shape.dims.length ct3, .slice aq3 kCQ.wh.length cq3] 41) = q := ⟨_, rfl⟩; have HRw := hJ ((HRr.out.below hb3 HRr.out.lt).alloc (.cells #[.slice ap3 kCQ.params.length cp3, .string kCQ.result.elem, .string kCQ.result.shape.row, .slice at3 kCQ.result.shape.dims.length ct3, .slice aq3 kCQ.wh.length cq3] 41)); rw [hfold7] at HRw
        have HWw : Hid (Below w.heap.size w w7) := hJ (by rw [← hfold7]; exact (HBr.out.trans (hb3.mono HBr.out.size)).alloc (by have := hb3.size; omega) _)
        clear hq; have v0 := HRw.out.cell 0 _ rfl; have v1 := HRw.out.cell 1 _ rfl; have v2 := HRw.out.cell 2 _ rfl; have v3 := HRw.out.cell 3 _ rfl; have v4 := HRw.out.cell 4 _ rfl; have u0 := HRw.out.fz 0; have u1 := HRw.out.fz 1; have u2 := HRw.out.fz 2; have u3 := HRw.out.fz 3; have u4 := HRw.out.fz 4; have hlr := HRw.out.lt; have HX60 := hJ (((((HRw.out.set 0 (.slice none 0 0)).set 1 (.string ⟨#[]⟩)).set 2 (.string ⟨#[]⟩)).set 3 (.slice none 0 0)).set 4 (.slice none 0 0)); have s0 := HX60.out.cell 0 _ rfl; have s1 := HX60.out.cell 1 _ rfl; have s2 := HX60.out.cell 2 _ rfl; have s3 := HX60.out.cell 3 _ rfl; have s4 := HX60.out.cell 4 _ rfl
        go_wp2_with fail
        refine bodyPost_ret (v := .tuple #[.agg #[.slice none 0 0, .string ⟨#[]⟩, .string ⟨#[]⟩, .slice none 0 0, .slice none 0 0], .int .i64 3]) (by simp [results, results28, go_sem, s0, s1, s2, s3, s4, hlr]) rfl ?_
        refine ⟨⟨[.slice none 0 0, .string ⟨#[]⟩, .string ⟨#[]⟩, .slice none 0 0, .slice none 0 0], by rw [HBd.out.1], by rw [HBd.out.2]; exact (kDP.no _ _).rd⟩, ?_⟩
        repeat (first | exact HWw.out | refine Below.setCell ?_ (by show _ ≤ w.heap.size + 1; omega) _)
      | true =>
        obtain ⟨hg0, hg1⟩ := HGood.out hok; have HG0 := hJ hg0; have HG1 := hJ hg1
        have HE0 : kB7 b s = 0 := by unfold kB7; rw [hok]; rfl
        have HS1 : kBL b s = kCF b s := by unfold kBL; rw [hok]; rfl
        rw [HE0, HS1] at HCw
        have HSw : Hid ((kCF b s).wh = s.wh.map (kAF b)) := hJ rfl
        have HSp : Hid (can s = ⟨(kCF b s).params, (kCF b s).result, tidy (kCF b s).wh⟩) := hJ hg1
        have hwl12 : (kCF b s).wh.length ≤ 12 := by rw [HSw.out, List.length_map]; exact HWL.out
        clear hok HGood HBad hg0 hg1 HE0 HS1 HG1 HSw
        generalize kCF b s = s' at *
        go_wp2_with fail
        refine HCw.out.mono ?_
        rintro e w3 ⟨⟨ds, rfl, hos⟩, hb3⟩
        obtain ⟨base, p, t, q, hb0, rfl, ⟨ap3, cp3, rfl, hp3⟩, ⟨at3, ct3, rfl, ht3⟩, hq⟩ := hos; obtain ⟨aq3, cq3, rfl, _⟩ := hq.sl; obtain ⟨w7, hfold7⟩ : ∃ q, w3.alloc (.cells #[.slice ap3 s'.params.length cp3, .string s'.result.elem, .string s'.result.shape.row, .slice at3 s'.result.shape.dims.length ct3, .slice aq3 s'.wh.length cq3] 41) = q := ⟨_, rfl⟩
        have HB7 : Hid (Below w3.heap.size w3 w7) := hJ (by rw [← hfold7]; exact (Below.refl _ _).alloc (Nat.le_refl _) _)
        have HP7 : Hid (Bx w7 w3.heap.size 41 [.slice ap3 s'.params.length cp3, .string s'.result.elem, .string s'.result.shape.row, .slice at3 s'.result.shape.dims.length ct3, .slice aq3 s'.wh.length cq3]) := hJ (by rw [← hfold7]; exact Bx.fresh _ _ _)
        have hz3 := hb3.size
        have hz7 : w3.heap.size < w7.heap.size := HP7.out.lt
        have HR7 := hJ ((HRr.out.below hb3 HRr.out.lt).below HB7.out (by have := HRr.out.lt; omega))
        have HW7 : Hid (Below w.heap.size w w7) := hJ ((HBr.out.trans (hb3.mono HBr.out.size)).trans (HB7.out.mono (by omega)))
        have HOB : Hid (∀ q, (Value.slice aq3 s'.wh.length cq3).ownBlock = some q → base ≤ q ∧ q < w3.heap.size) := hJ (fun q h => hq.block h)
        have HOq : Hid (Own RLin 65 (fun k => wr.heap.size ≤ k ∧ k ≠ w3.heap.size) w7 wr.heap.size (.slice aq3 s'.wh.length cq3) s'.wh) := hJ ((((hq.lower hb0).mono (S' := fun k => wr.heap.size ≤ k ∧ k ≠ w3.heap.size) (fun k hk hlt => ⟨by have hk : base ≤ k := hk; omega, by omega⟩))).below HB7.out)
        have HPs := hJ hp3; have HTs := hJ ht3
        have HDel := hJ (delete_Lin HOq.out (by omega) (by omega) 60 (kBM func60 rfl rfl) dropL (fun S' W x cs hr => canonical_1 hr))
        have p4 := HP7.out.cell 4 _ rfl; clear hp3 ht3 hq HCw
        go_wp2_with fail
        refine HDel.out.mono ?_
        rintro e w8 ⟨⟨v1, rfl, hown8, hk8⟩, hb8⟩
        clear HDel
        have hz8 : w7.heap.size ≤ w8.heap.size := hb8.size
        have HN8 : Hid (v1.ownBlock ≠ some w3.heap.size) := hJ (fun e => (hk8.own _ e).elim (fun e => by have := (HOB.out _ e).2; omega) (fun e => by omega))
        have HK8 : Hid (∀ q, q < w7.heap.size → q ≠ w3.heap.size → (Value.slice aq3 s'.wh.length cq3).ownBlock ≠ some q → w8.heap[q]? = w7.heap[q]?) := hJ (fun q hq _ hne => hk8.block q hq hne)
        have HV8 : Hid (∀ q, v1.ownBlock = some q → (Value.slice aq3 s'.wh.length cq3).ownBlock = some q ∨ w7.heap.size ≤ q) := hJ hk8.own
        have HP8 : Hid (Bx w8 w3.heap.size _ _) := hJ ((hk8.block w3.heap.size hz7 (fun e => by have := (HOB.out _ e).2; omega)).trans HP7.out)
        have HB8 := hJ hb8
        have hl8 : (s'.wh.filter (fun x => !dropL x)).length ≤ 12 := Nat.le_trans (List.length_filter_le _ _) hwl12
        obtain ⟨a8, m8, c8, rfl⟩ := hown8.shape; have HO8 := hJ hown8; clear hown8 hk8 hb8; have q4 := HP8.out.cell 4 _ rfl; have f4 := HP8.out.fz 4; obtain ⟨w9, hfold9⟩ : ∃ q, w8.setCell ⟨w3.heap.size, 4, none⟩ (.slice a8 m8 c8) = q := ⟨_, rfl⟩
        have HP9 : Hid (Bx w9 w3.heap.size 41 [.slice ap3 s'.params.length cp3, .string s'.result.elem, .string s'.result.shape.row, .slice at3 s'.result.shape.dims.length ct3, .slice a8 m8 c8]) := hJ (by rw [← hfold9]; exact HP8.out.set 4 _)
        have HH9 : Hid (∀ q, q ≠ w3.heap.size → w9.heap[q]? = w8.heap[q]?) := hJ (fun q hq => by rw [← hfold9]; exact kAA (fun e => hq e.symm))
        have hz9 : w9.heap.size = w8.heap.size := by rw [← hfold9]; simp
        have HO9 : Hid (Own RLin 65 (fun k => wr.heap.size ≤ k ∧ k ≠ w3.heap.size) w9 wr.heap.size (.slice a8 m8 c8) (s'.wh.filter (fun x => !dropL x))) := hJ (HO8.out.frame (fun k hk h => HH9.out k (by rcases h with h | h; exact h.2; exact fun e => HN8.out (by rw [← e]; exact h))) (by omega))
        have HB9 : Hid (Below wr.heap.size w7 w9) := hJ (by rw [← hfold9]; exact HB8.out.setCell (by show wr.heap.size ≤ w3.heap.size; omega) _)
        have HSrt := hJ (sortFunc_Lin HO9.out (by omega) hl8 63 (kBM func63 rfl rfl) kAZ totLin.pre (fun S' T' W x y cs ds h1 h2 => linear_Compare h1 h2))
        have r4 := HP9.out.cell 4 _ rfl; have HZ9 := hJ hz9; clear hz9
        go_wp2_with fail
        refine HSrt.out.mono ?_
        rintro e w10 ⟨⟨rfl, m, hperm, hle, hown10, hk10⟩, hb10⟩
        clear HSrt
        have hz10 : w8.heap.size ≤ w10.heap.size := by have := hb10.size; rw [HZ9.out] at this; exact this
        have HP10 : Hid (Bx w10 w3.heap.size _ _) := hJ ((hk10.block w3.heap.size HP9.out.lt HN8.out).trans HP9.out)
        have HK10 : Hid (∀ q, q < w7.heap.size → q ≠ w3.heap.size → (Value.slice aq3 s'.wh.length cq3).ownBlock ≠ some q → w10.heap[q]? = w7.heap[q]?) := hJ (fun q hq hn ho => (hk10.block q (by rw [HZ9.out]; omega) (fun e => (HV8.out q e).elim ho (fun e => by omega))).trans ((HH9.out q hn).trans (HK8.out q hq hn ho)))
        have HB10 : Hid (Below wr.heap.size w7 w10) := hJ (HB9.out.trans hb10)
        have hl10 : m.length ≤ 12 := by rw [hperm.length_eq]; exact hl8
        have HTd : Hid (kept (newB kB3 m) m m.length = tidy s'.wh) := hJ (by
         rw [← compG_kept kEF]
         exact comp_tidy totLin kEF dropL s'.wh m hle (fun z => hperm.mem_iff))
        have HCpt := hJ (compact_Lin hown10 (by omega) (by omega) 65 (kBM func65 rfl rfl) kB3 (fun S' T' W x y cs ds h1 h2 => types_same h1 h2))
        rw [HTd.out] at HCpt; have t4 := HP10.out.cell 4 _ rfl; clear hperm hle hown10 hk10 hb10 hl8 hl10 HTd
        go_wp2_with fail
        refine HCpt.out.mono ?_
        rintro e w11 ⟨⟨v2, rfl, hown11, hk11⟩, hb11⟩
        clear HCpt
        have hz11 : w10.heap.size ≤ w11.heap.size := hb11.size
        obtain ⟨a11, c11, rfl, hs11⟩ := hown11.sl
        have HP11 : Hid (Bx w11 w3.heap.size _ _) := hJ ((hk11.block w3.heap.size HP10.out.lt HN8.out).trans HP10.out)
        have HK11 : Hid (∀ q, q < w7.heap.size → q ≠ w3.heap.size → (Value.slice aq3 s'.wh.length cq3).ownBlock ≠ some q → w11.heap[q]? = w7.heap[q]?) := hJ (fun q hq hn ho => (hk11.block q (by omega) (fun e => (HV8.out q e).elim ho (fun e => by omega))).trans (HK10.out q hq hn ho))
        have HN11 : Hid ((Value.slice a11 (tidy s'.wh).length c11).ownBlock ≠ some w3.heap.size) := hJ (fun e => (hk11.own _ e).elim HN8.out (fun e => by omega))
        have HO11 := hJ hown11
        have HB11 : Hid (Below wr.heap.size w7 w11) := hJ (HB10.out.trans hb11)
        clear hown11 hk11 hb11 hs11; have u4 := HP11.out.cell 4 _ rfl; have g4 := HP11.out.fz 4; have HP12 := hJ (HP11.out.set 4 (.slice a11 (tidy s'.wh).length c11)); have p0 := HP12.out.cell 0 _ rfl; have p1 := HP12.out.cell 1 _ rfl; have p2 := HP12.out.cell 2 _ rfl; have p3 := HP12.out.cell 3 _ rfl; have p4' := HP12.out.cell 4 _ rfl
        have HRw : Hid (Bx (w11.setCell ⟨w3.heap.size, 4, none⟩ (.slice a11 (tidy s'.wh).length c11)) (w.heap.size + 1) 41 _) := hJ ((HR7.out.below HB11.out (by omega)).other (by show w3.heap.size ≠ w.heap.size + 1; omega))
        have v0 := HRw.out.cell 0 _ rfl; have v1 := HRw.out.cell 1 _ rfl; have v2 := HRw.out.cell 2 _ rfl; have v3 := HRw.out.cell 3 _ rfl; have v4 := HRw.out.cell 4 _ rfl; have u0 := HRw.out.fz 0; have u1 := HRw.out.fz 1; have u2 := HRw.out.fz 2; have u3 := HRw.out.fz 3; have u4' := HRw.out.fz 4; have hlr := HRw.out.lt; have HX60 := hJ (((((HRw.out.set 0 (.slice ap3 s'.params.length cp3)).set 1 (.string s'.result.elem)).set 2 (.string s'.result.shape.row)).set 3 (.slice at3 s'.result.shape.dims.length ct3)).set 4 (.slice a11 (tidy s'.wh).length c11)); have s0 := HX60.out.cell 0 _ rfl; have s1 := HX60.out.cell 1 _ rfl; have s2 := HX60.out.cell 2 _ rfl; have s3 := HX60.out.cell 3 _ rfl; have s4 := HX60.out.cell 4 _ rfl
        go_wp2_with fail
        refine bodyPost_ret (v := .tuple #[.agg #[.slice ap3 s'.params.length cp3, .string s'.result.elem, .string s'.result.shape.row, .slice at3 s'.result.shape.dims.length ct3, .slice a11 (tidy s'.wh).length c11], .int .i64 0]) (by simp [results, results28, go_sem, s0, s1, s2, s3, s4, hlr]) rfl ?_
        have hF : ∀ q, q ≠ w3.heap.size → q ≠ w.heap.size + 1 → ((((((w11.setCell ⟨w3.heap.size, 4, none⟩ (.slice a11 (tidy s'.wh).length c11)).setCell ⟨w.heap.size + 1, 0, none⟩ (.slice ap3 s'.params.length cp3)).setCell ⟨w.heap.size + 1, 1, none⟩ (.string s'.result.elem)).setCell ⟨w.heap.size + 1, 2, none⟩ (.string s'.result.shape.row)).setCell ⟨w.heap.size + 1, 3, none⟩ (.slice at3 s'.result.shape.dims.length ct3)).setCell ⟨w.heap.size + 1, 4, none⟩ (.slice a11 (tidy s'.wh).length c11)).heap[q]? = w11.heap[q]? := fun q h1 h2 => (kAA (fun e => h2 e.symm)).trans ((kAA (fun e => h2 e.symm)).trans ((kAA (fun e => h2 e.symm)).trans ((kAA (fun e => h2 e.symm)).trans ((kAA (fun e => h2 e.symm)).trans (kAA (fun e => h1 e.symm))))))
        have hFp : ∀ q, (wr.heap.size ≤ q ∧ q < base) → q < w3.heap.size → ((((((w11.setCell ⟨w3.heap.size, 4, none⟩ (.slice a11 (tidy s'.wh).length c11)).setCell ⟨w.heap.size + 1, 0, none⟩ (.slice ap3 s'.params.length cp3)).setCell ⟨w.heap.size + 1, 1, none⟩ (.string s'.result.elem)).setCell ⟨w.heap.size + 1, 2, none⟩ (.string s'.result.shape.row)).setCell ⟨w.heap.size + 1, 3, none⟩ (.slice at3 s'.result.shape.dims.length ct3)).setCell ⟨w.heap.size + 1, 4, none⟩ (.slice a11 (tidy s'.wh).length c11)).heap[q]? = w3.heap[q]? := fun q h1 h2 => (hF q (by omega) (by omega)).trans ((HK11.out q (by omega) (by omega) (fun e => by have := (HOB.out q e).1; omega)).trans (HB7.out.block q h2))
        refine ⟨⟨[.slice ap3 s'.params.length cp3, .string s'.result.elem, .string s'.result.shape.row, .slice at3 s'.result.shape.dims.length ct3, .slice a11 (tidy s'.wh).length c11], by rw [HG0.out], ?_⟩, ?_⟩
        · rw [HSp.out]
          obtain ⟨a12, c12, e12, hs12⟩ := HO11.out.sl; rw [Value.slice.injEq] at e12; obtain ⟨rfl, -, rfl⟩ := e12
          refine ⟨_, _, _, rfl, ⟨ap3, cp3, rfl, (HPs.out.frame hFp).mono (fun k hk _ => by omega)⟩, ⟨at3, ct3, rfl, (HTs.out.frame hFp).mono (fun k hk _ => by omega)⟩, ⟨a11, c11, rfl, ?_⟩⟩
          obtain ⟨a13, c13, e13, hs13, _⟩ := HO11.out.slAt; rw [Value.slice.injEq] at e13; obtain ⟨rfl, -, rfl⟩ := e13
          have hA : ∀ k, At a11 k → wr.heap.size ≤ k ∧ k ≠ w3.heap.size := fun k hk => ⟨HO11.out.base_le k (kFZ hk), fun e => HN11.out (by rw [← e]; exact kFZ hk)⟩
          exact (hs13.frame (fun k hk _ => hF k (by rcases hk with hk | hk; exact hk.2; exact (hA k hk).2) (by rcases hk with hk | hk; exact (by have := hk.1; omega); exact (by have := (hA k hk).1; omega)))).mono (fun k hk _ => by rcases hk with hk | hk; exact (by have := hk.1; omega); exact (by have := (hA k hk).1; omega))
        · have hB' := HW7.out.trans (HB11.out.mono (B' := w.heap.size) (by omega))
          exact (((((hB'.setCell (by show w.heap.size ≤ w3.heap.size; omega) _).setCell (by show w.heap.size ≤ w.heap.size + 1; omega) _).setCell (by show w.heap.size ≤ w.heap.size + 1; omega) _).setCell (by show w.heap.size ≤ w.heap.size + 1; omega) _).setCell (by show w.heap.size ≤ w.heap.size + 1; omega) _).setCell (by show w.heap.size ≤ w.heap.size + 1; omega) _
def fine (x : Ent) : Prop := szS x.scheme ∧ x.name.size ≤ 281474976710656 ∧ (kAJ x.scheme = true → x.scheme.wh.length ≤ 12)
theorem Raw.put5 {E : TypeId} {w : World} {g : Nat} {css : List (List Value)} {rest : List Value} (h : Raw 6 E w g css rest) {i : Nat} {c0 c1 c2 c3 c4 c5 : Value} (hi : css[i]? = some [c0, c1, c2, c3, c4, c5]) (v1 v2 v3 v4 v5 : Value) :
 Raw 6 E (((((w.setCell ⟨g, i * 6 + 1, none⟩ v1).setCell ⟨g, i * 6 + 2, none⟩ v2).setCell ⟨g, i * 6 + 3, none⟩ v3).setCell ⟨g, i * 6 + 4, none⟩ v4).setCell ⟨g, i * 6 + 5, none⟩ v5) g (css.set i [c0, v1, v2, v3, v4, v5]) rest := by
 have hl : i < css.length := by
  rcases Nat.lt_or_ge i css.length with q | q
  · exact q
  · rw [List.getElem?_eq_none q] at hi; cases hi
 have h1 : Raw 6 E _ g (css.set i [c0, v1, c2, c3, c4, c5]) rest := h.set hi (j := 1) (by decide) v1
 have h2 := h1.set (i := i) (cs := [c0, v1, c2, c3, c4, c5]) (List.getElem?_set_self hl) (j := 2) (by decide) v2
 rw [List.set_set] at h2
 have h3 := h2.set (i := i) (cs := [c0, v1, v2, c3, c4, c5]) (List.getElem?_set_self hl) (j := 3) (by decide) v3
 rw [List.set_set] at h3
 have h4 := h3.set (i := i) (cs := [c0, v1, v2, v3, c4, c5]) (List.getElem?_set_self hl) (j := 4) (by decide) v4
 rw [List.set_set] at h4
 have h5 := h4.set (i := i) (cs := [c0, v1, v2, v3, v4, c5]) (List.getElem?_set_self hl) (j := 5) (by decide) v5
 rw [List.set_set] at h5
 exact h5
theorem kGV {w : World} {g o1 o2 o3 o4 o5 : Nat} {v1 v2 v3 v4 v5 : Value} {q : Nat} (hq : q ≠ g) : (((((w.setCell ⟨g, o1, none⟩ v1).setCell ⟨g, o2, none⟩ v2).setCell ⟨g, o3, none⟩ v3).setCell ⟨g, o4, none⟩ v4).setCell ⟨g, o5, none⟩ v5).heap[q]? = w.heap[q]? :=
 (kAA (fun e => hq e.symm)).trans ((kAA (fun e => hq e.symm)).trans ((kAA (fun e => hq e.symm)).trans ((kAA (fun e => hq e.symm)).trans (kAA (fun e => hq e.symm)))))
theorem below_set5 {w0 w : World} {B g o1 o2 o3 o4 o5 : Nat} {v1 v2 v3 v4 v5 : Value} (h : Below B w0 w) (hg : B ≤ g) : Below B w0 (((((w.setCell ⟨g, o1, none⟩ v1).setCell ⟨g, o2, none⟩ v2).setCell ⟨g, o3, none⟩ v3).setCell ⟨g, o4, none⟩ v4).setCell ⟨g, o5, none⟩ v5) :=
 ((((h.setCell hg _).setCell hg _).setCell hg _).setCell hg _).setCell hg _
theorem own_put5 {S : Blk} {W : World} {base g c n k : Nat} {E : TypeId} {css : List (List Value)} {rest : List Value} {l : List Ent} {x : Ent} {y : Sch} {c0 c1 c2 c3 c4 c5 v1 v2 v3 v4 v5 : Value} (hR : Raw 6 E W g css rest) (hL : Lies REnt S W g css l) (hi : css[k]? = some [c0, c1, c2, c3, c4, c5]) (h0 : c0 = .string x.name) (hg : base ≤ g) (hn : n ≤ c) (hm : c ≤ maxLen) (hsz : css.length * 6 + rest.length = c * 6) (hln : l.length = n)
 (hr : RSch.rd (fun q => S q ∧ q ≠ g) W [v1, v2, v3, v4, v5] y) :
 Own REnt E S (((((W.setCell ⟨g, k * 6 + 1, none⟩ v1).setCell ⟨g, k * 6 + 2, none⟩ v2).setCell ⟨g, k * 6 + 3, none⟩ v3).setCell ⟨g, k * 6 + 4, none⟩ v4).setCell ⟨g, k * 6 + 5, none⟩ v5) base (.slice (some ⟨g, 0, none⟩) n c) (l.set k ⟨x.name, y⟩) := by
 have hR2 := hR.put5 hi v1 v2 v3 v4 v5
 have hL2 : Lies REnt S (((((W.setCell ⟨g, k * 6 + 1, none⟩ v1).setCell ⟨g, k * 6 + 2, none⟩ v2).setCell ⟨g, k * 6 + 3, none⟩ v3).setCell ⟨g, k * 6 + 4, none⟩ v4).setCell ⟨g, k * 6 + 5, none⟩ v5) g css l := hL.frame (fun q _ hne _ => kGV hne)
 have hL3 := hL2.set k (cs := [c0, v1, v2, v3, v4, v5]) (y := ⟨x.name, y⟩) ⟨_, by rw [h0], (RSch.frame hr (fun q hq _ => kGV hq.2))⟩
 have := Raw.own (R := REnt) (S := S) (base := base) (c := c) hR2 hL3 hg (by rw [List.length_set, hln]; exact hn) hm (by rw [List.length_set]; exact hsz)
 rwa [List.length_set, hln] at this
theorem kFU {S : Blk} {w : World} {mod : Str} {l : List Ent} {a : Option Addr} {n c : Nat} (h : Sl REnt S w a n c l) (hf : Fit w a) (hn : l.length ≤ 12) (hfine : ∀ x ∈ l, fine x) (hmz : mod.size ≤ 281474976710656) (E : Env w) :
 Calls Tryz.prog 7 #[.string mod, .slice a n c] w fun e w' => (∃ (A : Ifc) (ev : Int) (a' : Option Addr) (c' : Nat), e = .returned (.tuple #[.agg #[.string A.module_, .slice a' A.entries.length c'], .int .i64 ev]) ∧ Says mod l A ev ∧ Sl REnt (Fr S w) w' a' A.entries.length c' A.entries) ∧ Below w.heap.size w w' := by
 obtain ⟨zs, hz, hI, hr⟩ := h.e6 hf
 have hlz : zs.length = l.length := by rw [← hz, List.length_map]
 have hnl : n = l.length := h.len.symm
 have HE : Hid (∀ W, Below w.heap.size w W → Env W) := hJ (fun W hW => E.below hW)
 obtain ⟨W0, hW0⟩ : ∃ W0, w.alloc (.cells #[.string ⟨#[]⟩, .slice none 0 0] 29) = W0 := ⟨_, rfl⟩
 have hB0 : Below w.heap.size w W0 := by rw [← hW0]; exact (Below.refl _ _).alloc (Nat.le_refl _) _
 have hR0 : Bx W0 w.heap.size 29 [.string ⟨#[]⟩, .slice none 0 0] := by rw [← hW0]; exact Bx.fresh w _ [.string ⟨#[]⟩, .slice none 0 0]
 have hs0 : W0.heap.size = w.heap.size + 1 := by rw [← hW0]; simp
 obtain ⟨W1, hW1⟩ : ∃ W1, W0.alloc (.cells #[.slice a n c] 27) = W1 := ⟨_, rfl⟩
 have hB1 : Below W0.heap.size W0 W1 := by rw [← hW1]; exact (Below.refl _ _).alloc (Nat.le_refl _) _
 have hc1 : W1.cell? ⟨W0.heap.size, 0, none⟩ = some (.slice a n c) := by rw [← hW1]; exact (Bx.fresh W0 27 [.slice a n c]).cell 0 _ rfl
 have hs1 : W1.heap.size = w.heap.size + 2 := by rw [← hW1]; simp [hs0]
 have hB01 : Below w.heap.size w W1 := hB0.trans (hB1.mono (by omega))
 have HV := hJ (values_Ent a n c W0); rw [hW1] at HV
 have HS := hJ (sortedStable_Ent (S := fun k => S k ∧ k < w.heap.size) (w := W1) (.slice a n c) zs (by omega) W0.heap.size (by omega) hc1 ((hI.below hB01).lift (by omega)) (fun z hz => REnt.below (REnt.mono (hr z hz) (fun k hs hk => ⟨hs, hk⟩)) hB01))
 have HR1 : Hid (Bx W1 w.heap.size _ _) := hJ (hR0.below hB1 (by omega))
 have HB1 := hJ hB01; rw [hz] at HS; have HF := hJ hfine
 have HL : Hid (l.length = n) := hJ hnl.symm
 have hn12 : n ≤ 12 := by omega
 have HPm : Hid (∀ m : List Ent, m.Perm l → m.length = n) := hJ (fun m hp => by rw [hp.length_eq]; exact hnl.symm)
 have HZ0 := hJ hs0; have HZ1 := hJ hs1; clear h hf hI hr hz hlz hnl hn hfine E hc1 hB0 hB1 hB01 hR0 hs0 hs1
 go_enter func7, ntmps7
 go_wp2_with fail
 refine HV.out.mono ?_
 rintro e _ ⟨rfl, rfl⟩
 go_wp2_with fail
 refine HS.out.mono ?_
 rintro e w2 ⟨⟨v, rfl, m, hp, hle, ho⟩, hb2⟩
 clear hW0 hW1 HV HS; have hs0 := HZ0.out; have hs1 := HZ1.out; have hml := HPm.out m hp; obtain ⟨av, cv, hv, _⟩ := ho.sl; rw [hml] at hv; subst hv; have HP := hJ hp; have HLe := hJ hle; have hz2 := hb2.size
 have HG : Hid ((Value.slice av n cv).ownBlock ≠ some w2.heap.size) := hJ (fun e => by have := (ho.block e).2; omega)
 have HO2 : Hid (Own REnt 43 (fun q => (S q ∨ w.heap.size ≤ q) ∧ q ≠ w.heap.size ∧ q ≠ w2.heap.size) w2 (w.heap.size + 2) (.slice av n cv) m) := hJ ((ho.mono (fun q hq _ => ⟨.inl hq.1.1, by have := hq.1.2; omega, by have := hq.1.2; have := hb2.size; omega⟩)).lower (by omega))
 have HR2 := hJ (HR1.out.below hb2 (by omega))
 have HB2 : Hid (Below w.heap.size w w2) := hJ (HB1.out.trans (hb2.mono (by omega)))
 have HFm : Hid (∀ x ∈ m, fine x) := hJ (fun x hx => HF.out x (hp.mem_iff.1 hx))
 have HML := hJ hml
 have hzs : w.heap.size + 2 ≤ w2.heap.size := by omega
 clear hp hle ho hb2 hml HR1 HB1 hs0 hs1 hz2; obtain ⟨W3, hW3⟩ : ∃ W3, w2.alloc (.cells #[.string mod, .slice av n cv] 29) = W3 := ⟨_, rfl⟩
 have HB3 : Hid (Below w2.heap.size w2 W3) := hJ (by rw [← hW3]; exact (Below.refl _ _).alloc (Nat.le_refl _) _)
 have HX3 : Hid (Bx W3 w2.heap.size 29 [.string mod, .slice av n cv]) := hJ (by rw [← hW3]; exact Bx.fresh _ _ _)
 have hz3 : W3.heap.size = w2.heap.size + 1 := by rw [← hW3]; simp
 have HR3 := hJ (HR2.out.below HB3.out (by omega))
 have HO3 := hJ (HO2.out.below HB3.out)
 have HBa := hJ (HB2.out.trans (HB3.out.mono (by omega)))
 have x0 := HX3.out.cell 0 _ rfl; have x1 := HX3.out.cell 1 _ rfl
 go_wp2_with fail
 refine (kBU mod _ hmz).mono ?_
 rintro e _ ⟨rfl, rfl⟩
 clear hW3
 go_wp2_with fail
 go_loopw [7, 24] (fun okv i wr => ∃ k : Nat, k ≤ n ∧ i = .int .i64 k ∧ okv = .bool (okK mod m k) ∧ Hid (Own REnt 43 (fun q => (S q ∨ w.heap.size ≤ q) ∧ q ≠ w.heap.size ∧ q ≠ w2.heap.size) wr (w.heap.size + 2) (.slice av n cv) (kFG m k)) ∧ Hid (Bx wr w2.heap.size 29 [.string mod, .slice av n cv]) ∧ Hid (Bx wr w.heap.size 29 [.string ⟨#[]⟩, .slice none 0 0]) ∧ Below w.heap.size w wr ∧ W3.heap.size ≤ wr.heap.size) (fun _ i _ => n - (intOf i).toNat)
 case atStart => exact ⟨0, Nat.zero_le _, rfl, by rw [okK_zero], by rw [canUp_zero]; exact HO3, HX3, HR3, HBa.out, Nat.le_refl _⟩
 case round =>
  obtain ⟨k, hk, rfl, rfl, HO, HX, HR, hB, hsz⟩ := hrel; clear x0 x1; have x0 := HX.out.cell 0 _ rfl; have x1 := HX.out.cell 1 _ rfl
  by_cases hlt : k < n
  · have hkm : k < m.length := by rw [HML.out]; exact hlt
    obtain ⟨g, c', css, rest, hv, hg, hR, hL, hlc, hcm, hsl⟩ := HO.out.raw (by rw [canUp_len]; omega)
    rw [Value.slice.injEq] at hv; obtain ⟨rfl, -, rfl⟩ := hv; rw [canUp_len, HML.out] at hlc
    replace hR : Raw 6 43 wr g css rest := hR
    obtain ⟨cs, hi, hr⟩ := hL.2 k _ (canUp_at hkm); obtain ⟨⟨x, pa, pc, ta, tc, qa, qc⟩, hzx, rfl⟩ := E6.of hr
    replace hzx : x = m.getD k default := hzx
    have HFx := hJ (HFm.out x (by rw [hzx]; exact kAI hkm))
    have HNext : Hid ((kFG m k).set k (canE x) = kFG m (k + 1)) := hJ (by rw [hzx]; exact canUp_next hkm)
    have HOk : Hid (okK mod m (k + 1) = (okK mod m k && (decide (kDY x.scheme = 0) && kA0 x.name))) := hJ (by rw [okK_next hkm, hzx, goodE_err])
    replace hi : css[k]? = some [.string x.name, .slice pa x.scheme.params.length pc, .string x.scheme.result.elem, .string x.scheme.result.shape.row, .slice ta x.scheme.result.shape.dims.length tc, .slice qa x.scheme.wh.length qc] := hi
    rw [← hzx] at hr; obtain ⟨cs', e', hsch⟩ := hr
    replace e' : [.string x.name, .slice pa x.scheme.params.length pc, .string x.scheme.result.elem, .string x.scheme.result.shape.row, .slice ta x.scheme.result.shape.dims.length tc, .slice qa x.scheme.wh.length qc] = .string x.name :: cs' := e'
    cases e'
    have HCan := hJ (fun (W : World) (hW : Below wr.heap.size wr W) => types_Canonical (RSch.below hsch hW) HFx.out.1 HFx.out.2.2 (HE.out W (hB.trans (hW.mono hB.size))))
    have c0 := hR.cell hi 0 _ rfl; have c1 := hR.cell hi 1 _ rfl; have c2 := hR.cell hi 2 _ rfl; have c3 := hR.cell hi 3 _ rfl; have c4 := hR.cell hi 4 _ rfl; have c5 := hR.cell hi 5 _ rfl; rw [Nat.add_zero] at c0; have HRw := hJ hR; have HLw := hJ hL; have HI := hJ hi
    have HGn : Hid (g ≠ w2.heap.size) := hJ (fun e => HG.out (by rw [e]; rfl))
    have HWa : Hid (Below wr.heap.size wr (wr.alloc (.cells [.string x.name, .slice pa x.scheme.params.length pc, .string x.scheme.result.elem, .string x.scheme.result.shape.row, .slice ta x.scheme.result.shape.dims.length tc, .slice qa x.scheme.wh.length qc].toArray 43))) := hJ ((Below.refl _ _).alloc (Nat.le_refl _) _)
    have hgl := hR.lt
    have HSl : Hid (css.length * 6 + rest.length = cv * 6) := hJ hsl
    clear hzx hsch hR hL hi hsl
    go_wp2_with fail
    refine (HCan.out _ HWa.out).mono ?_
    rintro e w4 ⟨⟨ds, rfl, hds⟩, hb4⟩
    have HY : Hid (canE x = ⟨x.name, can x.scheme⟩) := hJ rfl
    have HBq := hJ (HWa.out.trans (hb4.mono HWa.out.size))
    have HE4 : Hid (Bx w4 wr.heap.size 43 [.string x.name, .slice pa x.scheme.params.length pc, .string x.scheme.result.elem, .string x.scheme.result.shape.row, .slice ta x.scheme.result.shape.dims.length tc, .slice qa x.scheme.wh.length qc]) := hJ ((Bx.fresh wr 43 [.string x.name, .slice pa x.scheme.params.length pc, .string x.scheme.result.elem, .string x.scheme.result.shape.row, .slice ta x.scheme.result.shape.dims.length tc, .slice qa x.scheme.wh.length qc]).below hb4 (by simp))
    have hnz := HFx.out.2.1; clear HCan HWa HFx c0 c1 c2 c3 c4 c5 x0 x1 hb4
    generalize can x.scheme = y at *
    generalize kDY x.scheme = ce at *
    obtain ⟨_, _, _, rfl, ⟨p5, pc5, rfl, hp5⟩, ⟨t5, tc5, rfl, ht5⟩, ⟨q5, qc5, rfl, hq5⟩⟩ := hds; have hz4 := HBq.out.size
    have hgl4 : g < w4.heap.size := by omega
    have HR4 := hJ (HRw.out.below HBq.out hgl); have HX4 := hJ (HX.out.below HBq.out HX.out.lt); have HRz4 := hJ (HR.out.below HBq.out HR.out.lt); have x0 := HX4.out.cell 0 _ rfl; have x1 := HX4.out.cell 1 _ rfl; have e0 := HE4.out.cell 0 _ rfl; have d1 := HR4.out.cell HI.out 1 _ rfl; have d2 := HR4.out.cell HI.out 2 _ rfl; have d3 := HR4.out.cell HI.out 3 _ rfl; have d4 := HR4.out.cell HI.out 4 _ rfl; have d5 := HR4.out.cell HI.out 5 _ rfl; have f1 := HR4.out.fz (k * 6 + 1); have f2 := HR4.out.fz (k * 6 + 2); have f3 := HR4.out.fz (k * 6 + 3); have f4 := HR4.out.fz (k * 6 + 4); have f5 := HR4.out.fz (k * 6 + 5)
    have hex : wr.heap.size < w4.heap.size := HE4.out.lt
    have hxl : w2.heap.size < w4.heap.size := HX4.out.lt
    have HOe : Own REnt 43 (fun q => (S q ∨ w.heap.size ≤ q) ∧ q ≠ w.heap.size ∧ q ≠ w2.heap.size) ((((((w4.setCell ⟨g, k * 6 + 1, none⟩ (.slice p5 y.params.length pc5)).setCell ⟨g, k * 6 + 1 + 1, none⟩ (.string y.result.elem)).setCell ⟨g, k * 6 + 1 + 2, none⟩ (.string y.result.shape.row)).setCell ⟨g, k * 6 + 1 + 3, none⟩ (.slice t5 y.result.shape.dims.length tc5)).setCell ⟨g, k * 6 + 1 + 4, none⟩ (.slice q5 y.wh.length qc5))) (w.heap.size + 2) (.slice (some ⟨g, 0, none⟩) n cv) (kFG m (k + 1)) := by
     rw [← HNext.out, HY.out]
     refine own_put5 HR4.out (HLw.out.below HBq.out) HI.out rfl hg hlc hcm HSl.out (by rw [canUp_len, HML.out]) ?_
     refine RSch.mono (S := fun q => (wr.alloc (.cells [.string x.name, .slice pa x.scheme.params.length pc, .string x.scheme.result.elem, .string x.scheme.result.shape.row, .slice ta x.scheme.result.shape.dims.length tc, .slice qa x.scheme.wh.length qc].toArray 43)).heap.size ≤ q) ⟨_, _, _, rfl, ⟨p5, pc5, rfl, hp5⟩, ⟨t5, tc5, rfl, ht5⟩, ⟨q5, qc5, rfl, hq5⟩⟩ (fun q hq hlt => ?_)
     simp at hq
     exact ⟨⟨.inr (by omega), by omega, by omega⟩, by omega⟩
    have HOd : Hid (Own REnt 43 (fun q => (S q ∨ w.heap.size ≤ q) ∧ q ≠ w.heap.size ∧ q ≠ w2.heap.size) (((((((w4.setCell ⟨g, k * 6 + 1, none⟩ (.slice p5 y.params.length pc5)).setCell ⟨g, k * 6 + 1 + 1, none⟩ (.string y.result.elem)).setCell ⟨g, k * 6 + 1 + 2, none⟩ (.string y.result.shape.row)).setCell ⟨g, k * 6 + 1 + 3, none⟩ (.slice t5 y.result.shape.dims.length tc5)).setCell ⟨g, k * 6 + 1 + 4, none⟩ (.slice q5 y.wh.length qc5))).alloc (.cells #[.slice p5 y.params.length pc5, .string y.result.elem, .string y.result.shape.row, .slice t5 y.result.shape.dims.length tc5, .slice q5 y.wh.length qc5] 41)) (w.heap.size + 2) (.slice (some ⟨g, 0, none⟩) n cv) (kFG m (k + 1))) := hJ (HOe.alloc _)
    have HXe : Bx ((((((w4.setCell ⟨g, k * 6 + 1, none⟩ (.slice p5 y.params.length pc5)).setCell ⟨g, k * 6 + 1 + 1, none⟩ (.string y.result.elem)).setCell ⟨g, k * 6 + 1 + 2, none⟩ (.string y.result.shape.row)).setCell ⟨g, k * 6 + 1 + 3, none⟩ (.slice t5 y.result.shape.dims.length tc5)).setCell ⟨g, k * 6 + 1 + 4, none⟩ (.slice q5 y.wh.length qc5))) w2.heap.size 29 [.string mod, .slice (some ⟨g, 0, none⟩) n cv] := (kGV (fun e => HGn.out e.symm)).trans HX4.out
    have HXd : Hid (Bx (((((((w4.setCell ⟨g, k * 6 + 1, none⟩ (.slice p5 y.params.length pc5)).setCell ⟨g, k * 6 + 1 + 1, none⟩ (.string y.result.elem)).setCell ⟨g, k * 6 + 1 + 2, none⟩ (.string y.result.shape.row)).setCell ⟨g, k * 6 + 1 + 3, none⟩ (.slice t5 y.result.shape.dims.length tc5)).setCell ⟨g, k * 6 + 1 + 4, none⟩ (.slice q5 y.wh.length qc5))).alloc (.cells #[.slice p5 y.params.length pc5, .string y.result.elem, .string y.result.shape.row, .slice t5 y.result.shape.dims.length tc5, .slice q5 y.wh.length qc5] 41)) w2.heap.size 29 [.string mod, .slice (some ⟨g, 0, none⟩) n cv]) := hJ (HXe.alloc _)
    have HRe : Bx ((((((w4.setCell ⟨g, k * 6 + 1, none⟩ (.slice p5 y.params.length pc5)).setCell ⟨g, k * 6 + 1 + 1, none⟩ (.string y.result.elem)).setCell ⟨g, k * 6 + 1 + 2, none⟩ (.string y.result.shape.row)).setCell ⟨g, k * 6 + 1 + 3, none⟩ (.slice t5 y.result.shape.dims.length tc5)).setCell ⟨g, k * 6 + 1 + 4, none⟩ (.slice q5 y.wh.length qc5))) w.heap.size 29 [.string ⟨#[]⟩, .slice none 0 0] := (kGV (fun e => by omega)).trans HRz4.out
    have HRd : Hid (Bx (((((((w4.setCell ⟨g, k * 6 + 1, none⟩ (.slice p5 y.params.length pc5)).setCell ⟨g, k * 6 + 1 + 1, none⟩ (.string y.result.elem)).setCell ⟨g, k * 6 + 1 + 2, none⟩ (.string y.result.shape.row)).setCell ⟨g, k * 6 + 1 + 3, none⟩ (.slice t5 y.result.shape.dims.length tc5)).setCell ⟨g, k * 6 + 1 + 4, none⟩ (.slice q5 y.wh.length qc5))).alloc (.cells #[.slice p5 y.params.length pc5, .string y.result.elem, .string y.result.shape.row, .slice t5 y.result.shape.dims.length tc5, .slice q5 y.wh.length qc5] 41)) w.heap.size 29 [.string ⟨#[]⟩, .slice none 0 0]) := hJ (HRe.alloc _)
    have HBe : Below w.heap.size w ((((((w4.setCell ⟨g, k * 6 + 1, none⟩ (.slice p5 y.params.length pc5)).setCell ⟨g, k * 6 + 1 + 1, none⟩ (.string y.result.elem)).setCell ⟨g, k * 6 + 1 + 2, none⟩ (.string y.result.shape.row)).setCell ⟨g, k * 6 + 1 + 3, none⟩ (.slice t5 y.result.shape.dims.length tc5)).setCell ⟨g, k * 6 + 1 + 4, none⟩ (.slice q5 y.wh.length qc5))) := below_set5 (hB.trans (HBq.out.mono hB.size)) (by omega)
    have HBd : Hid (Below w.heap.size w (((((((w4.setCell ⟨g, k * 6 + 1, none⟩ (.slice p5 y.params.length pc5)).setCell ⟨g, k * 6 + 1 + 1, none⟩ (.string y.result.elem)).setCell ⟨g, k * 6 + 1 + 2, none⟩ (.string y.result.shape.row)).setCell ⟨g, k * 6 + 1 + 3, none⟩ (.slice t5 y.result.shape.dims.length tc5)).setCell ⟨g, k * 6 + 1 + 4, none⟩ (.slice q5 y.wh.length qc5))).alloc (.cells #[.slice p5 y.params.length pc5, .string y.result.elem, .string y.result.shape.row, .slice t5 y.result.shape.dims.length tc5, .slice q5 y.wh.length qc5] 41))) := hJ (HBe.alloc HBe.size _)
    have hzd : W3.heap.size ≤ ((((((((w4.setCell ⟨g, k * 6 + 1, none⟩ (.slice p5 y.params.length pc5)).setCell ⟨g, k * 6 + 1 + 1, none⟩ (.string y.result.elem)).setCell ⟨g, k * 6 + 1 + 2, none⟩ (.string y.result.shape.row)).setCell ⟨g, k * 6 + 1 + 3, none⟩ (.slice t5 y.result.shape.dims.length tc5)).setCell ⟨g, k * 6 + 1 + 4, none⟩ (.slice q5 y.wh.length qc5))).alloc (.cells #[.slice p5 y.params.length pc5, .string y.result.elem, .string y.result.shape.row, .slice t5 y.result.shape.dims.length tc5, .slice q5 y.wh.length qc5] 41))).heap.size := by simp; omega
    clear HOe HXe HRe HBe; clear hp5 ht5 hq5
    generalize okK mod m k = ok at *
    cases ok with
    | false =>
      go_wp2_with fail
      go_roundw
      case rel => exact ⟨k + 1, by omega, by go_num, by rw [HOk.out]; rfl, HOd, HXd, HRd, HBd.out, hzd⟩
      case measure => simp [intOf]; omega
    | true =>
      by_cases hce : ce = 0
      · subst hce
        go_wp2_with fail
        refine (kBU x.name _ hnz).mono ?_
        rintro e _ ⟨rfl, rfl⟩
        go_wp2_with fail
        go_roundw
        case rel => exact ⟨k + 1, by omega, by go_num, by rw [HOk.out]; simp, HOd, HXd, HRd, HBd.out, hzd⟩
        case measure => simp [intOf]; omega
      · have hc2 : (ce == 0) = false := beq_eq_false_iff_ne.2 hce
        have hc3 : decide (ce = 0) = false := decide_eq_false hce
        go_wp2_with fail
        go_roundw
        case rel => exact ⟨k + 1, by omega, by go_num, by rw [HOk.out, hc3]; rfl, HOd, HXd, HRd, HBd.out, hzd⟩
        case measure => simp [intOf]; omega
  · obtain rfl : k = n := by omega
    have HCn : Hid (kFG m k = m.map canE) := hJ (by rw [← HML.out]; exact canUp_all m)
    rw [HCn.out] at HO
    have HSb : Hid (okK mod m k = false → Says mod l kCL 1) := hJ (fun q => says_bad HP.out (by rw [HML.out]; exact q))
    have HSt : Hid (okK mod m k = true → ∀ j, 0 < j → j < k → (m.getD (j - 1) default).name = (m.getD j default).name → Says mod l kCL 8) := hJ (fun q j h0 h1 he => says_twice HP.out (by rw [HML.out]; exact q) h0 (by rw [HML.out]; exact h1) he)
    have HSd : Hid (okK mod m k = true → (∀ j, 0 < j → j < k → (m.getD (j - 1) default).name ≠ (m.getD j default).name) → Says mod l ⟨mod, m.map canE⟩ 0) := hJ (fun q hh => says_done HP.out (by rw [HML.out]; exact q) HLe.out (fun j h0 h1 => hh j h0 (by rw [HML.out] at h1; exact h1)))
    generalize okK mod m k = ok at *
    cases ok with
    | false =>
      have z0 := HR.out.cell 0 _ rfl; have z1 := HR.out.cell 1 _ rfl; have f0 := HR.out.fz 0; have f1 := HR.out.fz 1; have hl0 := HR.out.lt; have HZz := hJ ((HR.out.set 0 (.string ⟨#[]⟩)).set 1 (.slice none 0 0)); have s0 := HZz.out.cell 0 _ rfl; have s1 := HZz.out.cell 1 _ rfl
      go_wp2_with fail
      refine bodyPost_ret (v := .tuple #[.agg #[.string ⟨#[]⟩, .slice none 0 0], .int .i64 1]) (by simp [results, results7, go_sem, s0, s1, hl0]) rfl ?_
      exact ⟨⟨kCL, 1, none, 0, rfl, HSb.out (by simp), Sl.empty _ _ _⟩, (hB.setCell (Nat.le_refl _) _).setCell (Nat.le_refl _) _⟩
    | true =>
      go_wp2_with fail
      go_loopw [58] (fun i wq => ∃ j : Nat, j ≤ k ∧ i = .int .i64 j ∧ Hid (∀ q, 0 < q → q < j → (m.getD (q - 1) default).name ≠ (m.getD q default).name) ∧ Below wr.heap.size wr wq) (fun i _ => k - (intOf i).toNat)
      case atStart => exact ⟨0, Nat.zero_le _, rfl, hJ (fun q _ h => absurd h (by omega)), Below.refl _ _⟩
      case round =>
       obtain ⟨j, hj, rfl, HT, hB2⟩ := hrel; have HRq := hJ (HR.out.below hB2 HR.out.lt); have HXq := hJ (HX.out.below hB2 HX.out.lt); clear x0 x1; have hz2 := hB2.size
       by_cases hlt2 : j < k
       · have x1 := HXq.out.cell 1 _ rfl
         obtain ⟨g, c', hv, hg, hgl, hsl0, _⟩ := HO.out.open_ (by rw [List.length_map, HML.out]; omega)
         rw [Value.slice.injEq] at hv; obtain ⟨rfl, -, rfl⟩ := hv; have hsl := hsl0.below hB2; rw [List.length_map, HML.out] at hsl; obtain ⟨_, _, _, _, ⟨⟨ap, cp, rfl, _⟩, ⟨at_, ct, rfl, _⟩, ⟨aq, cq, rfl, _⟩⟩, c0, c1, c2, c3, c4, c5⟩ := hsl.ent j hlt2; rw [Nat.zero_add] at c0 c1 c2 c3 c4 c5; have HNm := hJ (canE_name m j); have HSl := hJ hsl
         have hgq : g < wr.heap.size := by omega
         clear hsl0 hsl
         generalize (m.map canE).getD j default = u at *
         have hBx := Bx.fresh wr 43 [.string u.name, .slice ap u.scheme.params.length cp, .string u.scheme.result.elem, .string u.scheme.result.shape.row, .slice at_ u.scheme.result.shape.dims.length ct, .slice aq u.scheme.wh.length cq]; have v0 := hBx.cell 0 _ rfl
         have hb2 : Below wr.heap.size wr (wr.alloc (.cells [.string u.name, .slice ap u.scheme.params.length cp, .string u.scheme.result.elem, .string u.scheme.result.shape.row, .slice at_ u.scheme.result.shape.dims.length ct, .slice aq u.scheme.wh.length cq].toArray 43)) := (Below.refl _ _).alloc (Nat.le_refl _) _
         have HBq := hJ (hB2.trans (hb2.mono hz2)); have X1 := kAC x1 _ hb2; have HRq2 := hJ (HRq.out.below hb2 HRq.out.lt); have HSl2 := hJ (HSl.out.below hb2)
         go_wp2_with fail
         clear c0 c1 c2 c3 c4 c5 x1 hBx hb2
         generalize wr.alloc (.cells [.string u.name, .slice ap u.scheme.params.length cp, .string u.scheme.result.elem, .string u.scheme.result.shape.row, .slice at_ u.scheme.result.shape.dims.length ct, .slice aq u.scheme.wh.length cq].toArray 43) = w6 at *
         have v0 := Later.cell v0; have X1 := Later.cell X1
         cases j with
         | zero =>
           refine kAB (by kernel_rfl) (by kernel_rfl) ?_
           repeat (go_big_quiet_step (fail))
           refine wpQuiet_nil ?_
           rintro _ ⟨t9, rfl⟩
           go_wp2_with fail
           go_roundw
           case rel => exact ⟨1, by omega, by go_num, hJ (fun q h0 h1 => absurd h1 (by omega)), HBq.out.trans (t9.b.mono HBq.out.size)⟩
           case measure => simp [intOf]; omega
         | succ j =>
           obtain ⟨_, _, _, _, _, hp, _⟩ := HSl2.out.ent j (by omega)
           rw [Nat.zero_add] at hp; have hp := Later.cell hp; have HNp := hJ (canE_name m j)
           have hk0 : (0 : Int) < ((j + 1 : Nat) : Int) := by omega
           have hki : (((j + 1 : Nat) : Int) - 1) = (j : Int) := by omega
           generalize (m.map canE).getD j default = u0 at *
           by_cases hn : (u0.name.toList == u.name.toList) = true
           · have hs8 := HSt.out (by simp) (j + 1) (by omega) hlt2 (by
              rw [Nat.add_sub_cancel, ← HNp.out, ← HNm.out]
              exact (kA7 _ _).1 hn)
             have HS8 := hJ hs8; clear hs8
             refine kAB (by kernel_rfl) (by kernel_rfl) ?_
             repeat (go_big_quiet_step (fail))
             refine wpQuiet_nil ?_
             rintro _ ⟨t9, rfl⟩
             have HRz := hJ (HRq2.out.below t9.b HRq2.out.lt); have z0 := HRz.out.cell 0 _ rfl; have z1 := HRz.out.cell 1 _ rfl; have f0 := HRz.out.fz 0; have f1 := HRz.out.fz 1; have hl0 := HRz.out.lt; have HZz := hJ ((HRz.out.set 0 (.string ⟨#[]⟩)).set 1 (.slice none 0 0)); have s0 := HZz.out.cell 0 _ rfl; have s1 := HZz.out.cell 1 _ rfl
             go_wp2_with fail
             refine bodyPost_ret (v := .tuple #[.agg #[.string ⟨#[]⟩, .slice none 0 0], .int .i64 8]) (by simp [results, results7, go_sem, s0, s1, hl0]) rfl ?_
             exact ⟨⟨kCL, 8, none, 0, rfl, HS8.out, Sl.empty _ _ _⟩, (((hB.trans ((HBq.out.trans (t9.b.mono HBq.out.size)).mono hB.size))).setCell (Nat.le_refl _) _).setCell (Nat.le_refl _) _⟩
           · have hn : (u0.name.toList == u.name.toList) = false := by simpa using hn
             have HNe : Hid ((m.getD (j + 1 - 1) default).name ≠ (m.getD (j + 1) default).name) := hJ (fun e => by
              rw [Nat.add_sub_cancel, ← HNp.out, ← HNm.out] at e; rw [e] at hn
              simp at hn)
             refine kAB (by kernel_rfl) (by kernel_rfl) ?_
             repeat (go_big_quiet_step (fail))
             refine wpQuiet_nil ?_
             rintro _ ⟨t9, rfl⟩
             go_wp2_with fail
             have HT2 : Hid (∀ q, 0 < q → q < j + 1 + 1 → (m.getD (q - 1) default).name ≠ (m.getD q default).name) := hJ (fun q h0 h1 => by
              rcases Nat.lt_or_ge q (j + 1) with r | r
              · exact HT.out q h0 r
              · obtain rfl : q = j + 1 := by omega
                exact HNe.out)
             go_roundw
             case rel => exact ⟨j + 1 + 1, by omega, by go_num, HT2, HBq.out.trans (t9.b.mono HBq.out.size)⟩
             case measure => simp [intOf]; omega
       · have HS0 := hJ (HSd.out (by simp) (fun q h0 h1 => HT.out q h0 (by omega)))
         have hkm : (m.map canE).length = k := by rw [List.length_map, HML.out]
         obtain ⟨a3, c3, e3, hsl3, hat⟩ := HO.out.slAt; rw [hkm] at e3 hsl3; rw [Value.slice.injEq] at e3; obtain ⟨rfl, -, rfl⟩ := e3; have HSl3 := hJ (hsl3.below hB2); have HAt := hJ hat; have HKm := hJ hkm; clear hsl3 hat hkm; have x0 := HXq.out.cell 0 _ rfl; have x1 := HXq.out.cell 1 _ rfl; have z0 := HRq.out.cell 0 _ rfl; have z1 := HRq.out.cell 1 _ rfl; have f0 := HRq.out.fz 0; have f1 := HRq.out.fz 1; have hl0 := HRq.out.lt
         have h60 : ¬((60 : Int) < (k : Int)) := by omega
         have HZz := hJ ((HRq.out.set 0 (.string mod)).set 1 (.slice av k cv)); have s0 := HZz.out.cell 0 _ rfl; have s1 := HZz.out.cell 1 _ rfl
         go_wp2_with fail
         refine bodyPost_ret (v := .tuple #[.agg #[.string mod, .slice av k cv], .int .i64 0]) (by simp [results, results7, go_sem, s0, s1, hl0]) rfl ?_
         refine ⟨⟨⟨mod, m.map canE⟩, 0, av, cv, ?_, HS0.out, ?_⟩, ((hB.trans (hB2.mono hB.size)).setCell (Nat.le_refl _) _).setCell (Nat.le_refl _) _⟩
         · show _ = Ending.returned (.tuple #[.agg #[.string mod, .slice av (m.map canE).length cv], .int .i64 0])
           rw [HKm.out]
         · show Sl REnt (Fr S w) _ av (m.map canE).length cv (m.map canE)
           rw [HKm.out]
           refine (HSl3.out.frame (fun q hq _ => ?_)).mono (fun q hq _ => ?_)
           · have hne : q ≠ w.heap.size := by
              rcases hq with hq | hq
              · exact hq.2.1
              · have := (HAt.out q hq).1; omega
             exact (kAA (fun e => hne e.symm)).trans (kAA (fun e => hne e.symm))
           · rcases hq with hq | hq
             · exact hq.1
             · exact .inr (by have := (HAt.out q hq).1; omega)
theorem eqList_len {α : Type} [Inhabited α] {p : α → α → Bool} {l l2 : List α} (h : l.length ≠ l2.length) : kA2 p l l2 = false := by
 unfold kA2
 rw [show (l.length == l2.length) = false from beq_eq_false_iff_ne.2 h]; rfl
theorem eqList_bad {α : Type} [Inhabited α] {p : α → α → Bool} {l l2 : List α} {k : Nat} (hk : k < l.length) (h : p (l.getD k default) (l2.getD k default) = false) : kA2 p l l2 = false := by
 unfold kA2
 rw [kD1 hk h, Bool.and_false]
theorem kGD {α : Type} [Inhabited α] {p : α → α → Bool} {l l2 : List α} (hl : l.length = l2.length) (h : ∀ j, j < l.length → p (l.getD j default) (l2.getD j default) = true) : kA2 p l l2 = true := by
 unfold kA2
 rw [show (l.length == l2.length) = true from beq_iff_eq.2 hl, kCH h]; rfl
theorem allT_len (x : Sch) : (allT x).length = x.params.length + 1 := by unfold allT; rw [List.length_append]; rfl
theorem eqSch_all (x y : Sch) : kFF x y = (kA2 kDD (allT x) (allT y) && kA2 kB3 x.wh y.wh) := by
 rw [Bool.eq_iff_iff, eqSch_iff, Bool.and_eq_true, kCZ _ eqTyp_iff, kCZ _ kEF]
 unfold allT
 constructor
 · rintro rfl; exact ⟨rfl, rfl⟩
 · rintro ⟨h1, h2⟩
   have := List.append_inj' h1 rfl
   cases x; cases y
   simp_all
theorem kD9 {S T : Blk} {x y : Sch} {cs ds : List Value} {w : World} (h : RSch.rd S w cs x) (h2 : RSch.rd T w ds y) (hnx : x.params.length ≤ 1000000) (hny : y.params.length ≤ 1000000) :
 Calls Tryz.prog 10 #[.agg cs.toArray, .agg ds.toArray] w fun e w' => e = .returned (.bool (kFF x y)) ∧ Below w.heap.size w w' := by
 have HCX : Hid (∀ W, Below w.heap.size w W → Calls Tryz.prog 33 #[.agg cs.toArray] W fun e w' => (∃ v, e = .returned v ∧ Own RTyp 39 S w' W.heap.size v (allT x)) ∧ Below W.heap.size W w') :=
  hJ (fun W hW => kD8 (RSch.below h hW) hnx)
 have HCY : Hid (∀ W, Below w.heap.size w W → Calls Tryz.prog 33 #[.agg ds.toArray] W fun e w' => (∃ v, e = .returned v ∧ Own RTyp 39 T w' W.heap.size v (allT y)) ∧ Below W.heap.size W w') :=
  hJ (fun W hW => kD8 (RSch.below h2 hW) hny)
 obtain ⟨_, _, _, rfl, ⟨ap, cp, rfl, hp⟩, ⟨at_, ct, rfl, ht⟩, ⟨aq, cq, rfl, hq⟩⟩ := h; obtain ⟨_, _, _, rfl, ⟨ap2, cp2, rfl, hp2⟩, ⟨at2, ct2, rfl, ht2⟩, ⟨aq2, cq2, rfl, hq2⟩⟩ := h2; have HQ0 := hJ hq; have HQ20 := hJ hq2; have hm := hq.small; have hm2 := hq2.small; clear hp ht hq hp2 ht2 hq2; have HN := hJ (eqSch_all x y); have HAX := hJ (allT_len x); have HAY := hJ (allT_len y)
 generalize hn1 : x.params.length = n at *
 generalize hn2 : y.params.length = n2 at *
 generalize hl1 : x.wh.length = m at *
 generalize hl2 : y.wh.length = m2 at *
 have HL1 := hJ hl1; have HL2 := hJ hl2; clear hn1 hn2 hl1 hl2
 by_cases hd : n = n2
 case neg =>
  obtain ⟨B0, ya, yb, hW0⟩ := box2 w 41 [.slice ap n cp, .string x.result.elem, .string x.result.shape.row, .slice at_ x.result.shape.dims.length ct, .slice aq m cq] 41 [.slice ap2 n2 cp2, .string y.result.elem, .string y.result.shape.row, .slice at2 y.result.shape.dims.length ct2, .slice aq2 m2 cq2]; have xa0 := box0 ya 0 _ rfl; have xa1 := box0 ya 1 _ rfl; have xa2 := box0 ya 2 _ rfl; have xa3 := box0 ya 3 _ rfl; have xa4 := box0 ya 4 _ rfl; have xb0 := box0 yb 0 _ rfl; have xb1 := box0 yb 1 _ rfl; have xb2 := box0 yb 2 _ rfl; have xb3 := box0 yb 3 _ rfl; have xb4 := box0 yb 4 _ rfl; clear ya yb
  have q1 : ((n : Int) != (n2 : Int)) = true := bne_iff_ne.2 (by omega)
  have HF : Hid (kFF x y = false) := hJ (by rw [HN.out, eqList_len (by rw [HAX.out, HAY.out]; omega)]; rfl)
  go_enter func10, ntmps10
  go_wp2_with fail
  go_ret
  exact ⟨by rw [HF.out]; rfl, B0.out⟩
 subst hd
 by_cases hd2 : m = m2
 case neg =>
  obtain ⟨B0, ya, yb, hW0⟩ := box2 w 41 [.slice ap n cp, .string x.result.elem, .string x.result.shape.row, .slice at_ x.result.shape.dims.length ct, .slice aq m cq] 41 [.slice ap2 n cp2, .string y.result.elem, .string y.result.shape.row, .slice at2 y.result.shape.dims.length ct2, .slice aq2 m2 cq2]; have xa0 := box0 ya 0 _ rfl; have xa1 := box0 ya 1 _ rfl; have xa2 := box0 ya 2 _ rfl; have xa3 := box0 ya 3 _ rfl; have xa4 := box0 ya 4 _ rfl; have xb0 := box0 yb 0 _ rfl; have xb1 := box0 yb 1 _ rfl; have xb2 := box0 yb 2 _ rfl; have xb3 := box0 yb 3 _ rfl; have xb4 := box0 yb 4 _ rfl; clear ya yb
  have q1 : ((n : Int) != (n : Int)) = false := by simp
  have q2 : ((m : Int) != (m2 : Int)) = true := bne_iff_ne.2 (by omega)
  have HF : Hid (kFF x y = false) := hJ (by rw [HN.out, eqList_len (p := kB3) (by rw [HL1.out, HL2.out]; exact hd2), Bool.and_false])
  go_enter func10, ntmps10
  go_wp2_with fail
  go_ret
  exact ⟨by rw [HF.out]; rfl, B0.out⟩
 subst hd2; obtain ⟨B0, ya, yb, hW0⟩ := box2 w 41 [.slice ap n cp, .string x.result.elem, .string x.result.shape.row, .slice at_ x.result.shape.dims.length ct, .slice aq m cq] 41 [.slice ap2 n cp2, .string y.result.elem, .string y.result.shape.row, .slice at2 y.result.shape.dims.length ct2, .slice aq2 m cq2]; have xa0 := box0 ya 0 _ rfl; have xa1 := box0 ya 1 _ rfl; have xa2 := box0 ya 2 _ rfl; have xa3 := box0 ya 3 _ rfl; have xa4 := box0 ya 4 _ rfl; have xb0 := box0 yb 0 _ rfl; have xb1 := box0 yb 1 _ rfl; have xb2 := box0 yb 2 _ rfl; have xb3 := box0 yb 3 _ rfl; have xb4 := box0 yb 4 _ rfl; clear ya yb
 have q1 : ((n : Int) != (n : Int)) = false := by simp
 have q2 : ((m : Int) != (m : Int)) = false := by simp
 go_enter func10, ntmps10
 go_wp2_with fail
 generalize ((w.alloc (.cells #[.slice ap n cp, .string x.result.elem, .string x.result.shape.row, .slice at_ x.result.shape.dims.length ct, .slice aq m cq] 41)).alloc (.cells #[.slice ap2 n cp2, .string y.result.elem, .string y.result.shape.row, .slice at2 y.result.shape.dims.length ct2, .slice aq2 m cq2] 41)) = W at *
 have HCX : Hid (∀ W', Below W.heap.size W W' → Calls Tryz.prog 33 #[.agg #[.slice ap n cp, .string x.result.elem, .string x.result.shape.row, .slice at_ x.result.shape.dims.length ct, .slice aq m cq]] W' fun e w' => (∃ a c, e = .returned (.slice a (allT x).length c) ∧ Sl RTyp All w' a (allT x).length c (allT x)) ∧ Below W.heap.size W w' ∧ Below W'.heap.size W' w') :=
  hJ (fun W' hW' => (HCX.out W' (B0.out.trans (hW'.mono B0.out.size))).mono fun e w' ⟨⟨v, he, ho⟩, hb⟩ => by
   obtain ⟨a, c, rfl, hs⟩ := ho.sl
   exact ⟨⟨a, c, he, hs.all⟩, hW'.trans (hb.mono hW'.size), hb⟩)
 have HCY : Hid (∀ W', Below W.heap.size W W' → Calls Tryz.prog 33 #[.agg #[.slice ap2 n cp2, .string y.result.elem, .string y.result.shape.row, .slice at2 y.result.shape.dims.length ct2, .slice aq2 m cq2]] W' fun e w' => (∃ a c, e = .returned (.slice a (allT y).length c) ∧ Sl RTyp All w' a (allT y).length c (allT y)) ∧ Below W.heap.size W w' ∧ Below W'.heap.size W' w') :=
  hJ (fun W' hW' => (HCY.out W' (B0.out.trans (hW'.mono B0.out.size))).mono fun e w' ⟨⟨v, he, ho⟩, hb⟩ => by
   obtain ⟨a, c, rfl, hs⟩ := ho.sl
   exact ⟨⟨a, c, he, hs.all⟩, hW'.trans (hb.mono hW'.size), hb⟩)
 obtain ⟨N, hN⟩ : ∃ N, N = n + 1 := ⟨_, rfl⟩; rw [HAX.out, ← hN] at HCX; rw [HAY.out, ← hN] at HCY
 have hN2 : N ≤ 9223372036854775807 := by omega
 have HQ := hJ (HQ0.out.below B0.out); have HQ2 := hJ (HQ20.out.below B0.out)
 go_region_with (first
  | (go_at_call_of 33 (Value.slice ap n cp)
     refine (HCX.out _ ?hw).mono ?_
     case hw => (repeat (first | assumption | exact Below.refl _ _ | exact Hid.out (by assumption) | refine kCU ?_ _ | refine kDG ?_))
     rintro e w1 ⟨⟨ax, cx, rfl, hslx⟩, hbx, hbx2⟩
     have r0 := kAC xb0 _ hbx; have r1 := kAC xb1 _ hbx; have r2 := kAC xb2 _ hbx; have r3 := kAC xb3 _ hbx
     have r4 := kAC xb4 _ hbx)
  | (go_at_call_of 33 (Value.slice ap2 n cp2)
     refine (HCY.out _ ?hw).mono ?_
     case hw => (repeat (first | assumption | exact Below.refl _ _ | exact Hid.out (by assumption) | refine kCU ?_ _ | refine kDG ?_))
     rintro e w2 ⟨⟨ay, cy, rfl, hsly⟩, hby, hby2⟩
     have r0 := kAC xa0 _ hby; have r1 := kAC xa1 _ hby; have r2 := kAC xa2 _ hby; have r3 := kAC xa3 _ hby
     have r4 := kAC xa4 _ hby))
 all_goals
  have HSX := hJ (hslx.below hby2); have HSY := hJ hsly
  have HLX : Hid ((allT x).length = N) := hJ (by rw [HAX.out, hN])
  have HLY : Hid ((allT y).length = N) := hJ (by rw [HAY.out, hN])
  have g4 := kAC xa4 _ hby; have k4 := kAC xb4 _ hby; have HW2 := hJ hby; have HQ2 := hJ (HQ2.out.below hby); have HQ := hJ (HQ.out.below hby); clear hslx hsly hbx hbx2 hby hby2 r0 r1 r2 r3 r4 xa0 xa1 xa2 xa3 xa4 xb0 xb1 xb2 xb3 xb4 HCX HCY
  go_wp2_with fail
  go_loopw [7] (fun i wr => ∃ k : Nat, k ≤ N ∧ i = .int .i64 k ∧ Hid (∀ j, j < k → kDD ((allT x).getD j default) ((allT y).getD j default) = true) ∧ Below w2.heap.size w2 wr) (fun i _ => N - (intOf i).toNat)
  case atStart => exact ⟨0, Nat.zero_le _, rfl, fun j hj => absurd hj (by omega), Below.refl _ _⟩
  case round =>
   obtain ⟨k, hk, rfl, HT, hB⟩ := hrel
   by_cases hlt : k < N
   · obtain ⟨b, off, rfl, hbW, _⟩ := HSX.out.form k hlt
     obtain ⟨b2, off2, rfl, hbW2, _⟩ := HSY.out.form k hlt; obtain ⟨t, hr, hd, c0, c1, c2⟩ := (HSX.out.below hB).typ k hlt; obtain ⟨t2, hr2, hd2, d0, d1, d2⟩ := (HSY.out.below hB).typ k hlt
     have HC := hJ (fun t9 : Later wr => ref12_Equal (RTyp.below hr t9.b) (RTyp.below hr2 t9.b))
     have c0 := Later.cell c0; have c1 := Later.cell c1; have c2 := Later.cell c2; have d0 := Later.cell d0; have d1 := Later.cell d1; have d2 := Later.cell d2
     have HBad := hJ (fun q => eqList_bad (p := kDD) (l := allT x) (l2 := allT y) (k := k) (by rw [HLX.out]; exact hlt) q)
     have HGo := hJ (fun q => upto HT.out (p := fun j => kDD ((allT x).getD j default) ((allT y).getD j default) = true) q)
     clear hr hr2 hd hd2
     generalize (allT x).getD k default = u at *
     generalize (allT y).getD k default = u2 at *
     generalize kDD u u2 = q at *
     cases q with
     | true =>
       replace HGo := hJ (HGo.out rfl)
       go_wp2_with fail
       refine kAB (by kernel_rfl) (by kernel_rfl) ?_
       repeat (go_big_quiet_step (first | fail | exact Later.call (HC.out _)))
       refine wpQuiet_nil ?_
       rintro _ ⟨t9, rfl⟩
       go_wp2_with fail
       go_roundw
       case rel => exact ⟨k + 1, by omega, by go_num, HGo, hB.trans (t9.b.mono hB.size)⟩
       case measure => simp [intOf]; omega
     | false =>
       have HF : Hid (kFF x y = false) := hJ (by rw [HN.out, HBad.out rfl]; rfl)
       go_wp2_with fail
       refine kAB (by kernel_rfl) (by kernel_rfl) ?_
       repeat (go_big_quiet_step (first | fail | exact Later.call (HC.out _)))
       refine wpQuiet_nil ?_
       rintro _ ⟨t9, rfl⟩
       go_wp2_with fail
       go_ret
       exact ⟨by rw [HF.out]; rfl, B0.out.trans ((HW2.out.trans ((hB.trans (t9.b.mono hB.size)).mono HW2.out.size)).mono B0.out.size)⟩
   · have HA : Hid (kA2 kDD (allT x) (allT y) = true) := hJ (kGD (by rw [HLX.out, HLY.out]) (fun j hj => HT.out j (by rw [HLX.out] at hj; omega)))
     have HN2 : Hid (kFF x y = kA2 kB3 x.wh y.wh) := hJ (by rw [HN.out, HA.out]; rfl)
     have hW3 := HW2.out.trans (hB.mono HW2.out.size); have g5 := kAC g4 _ hB; have k5 := kAC k4 _ hB; have HW3 := hJ hB; clear hW3 hB
     go_wp2_with fail
     go_loopw [8] (fun i wr => ∃ k : Nat, k ≤ m ∧ i = .int .i64 k ∧ Hid (∀ j, j < k → kB3 (x.wh.getD j default) (y.wh.getD j default) = true) ∧ Below w2.heap.size w2 wr) (fun i _ => m - (intOf i).toNat)
     case atStart => exact ⟨0, Nat.zero_le _, rfl, fun j hj => absurd hj (by omega), HW3.out⟩
     case round =>
      obtain ⟨k, hk, rfl, HT, hB⟩ := hrel; have g6 := kAC g4 _ hB; have k6 := kAC k4 _ hB
      by_cases hlt : k < m
      · obtain ⟨b, off, rfl, hbW, _⟩ := HQ.out.form k hlt
        obtain ⟨b2, off2, rfl, hbW2, _⟩ := HQ2.out.form k hlt; obtain ⟨t, hr, hd, c0, c1⟩ := (HQ.out.below hB).lin k hlt; obtain ⟨t2, hr2, hd2, d0, d1⟩ := (HQ2.out.below hB).lin k hlt
        have HC := hJ (fun t9 : Later wr => kER (RLin.below hr t9.b) (RLin.below hr2 t9.b))
        have g7 := Later.cell g6; have k7 := Later.cell k6; have c0 := Later.cell c0; have c1 := Later.cell c1; have d0 := Later.cell d0; have d1 := Later.cell d1
        have HBad := hJ (fun q => eqList_bad (p := kB3) (l := x.wh) (l2 := y.wh) (k := k) (by rw [HL1.out]; exact hlt) q)
        have HGo := hJ (fun q => upto HT.out (p := fun j => kB3 (x.wh.getD j default) (y.wh.getD j default) = true) q)
        clear hr hr2 hd hd2
        generalize x.wh.getD k default = u at *
        generalize y.wh.getD k default = u2 at *
        generalize kB3 u u2 = q at *
        cases q with
        | true =>
          replace HGo := hJ (HGo.out rfl)
          go_wp2_with fail
          refine kAB (by kernel_rfl) (by kernel_rfl) ?_
          repeat (go_big_quiet_step (first | fail | exact Later.call (HC.out _)))
          refine wpQuiet_nil ?_
          rintro _ ⟨t9, rfl⟩
          go_wp2_with fail
          go_roundw
          case rel => exact ⟨k + 1, by omega, by go_num, HGo, hB.trans (t9.b.mono hB.size)⟩
          case measure => simp [intOf]; omega
        | false =>
          have HF : Hid (kFF x y = false) := hJ (by rw [HN2.out, HBad.out rfl])
          go_wp2_with fail
          refine kAB (by kernel_rfl) (by kernel_rfl) ?_
          repeat (go_big_quiet_step (first | fail | exact Later.call (HC.out _)))
          refine wpQuiet_nil ?_
          rintro _ ⟨t9, rfl⟩
          go_wp2_with fail
          go_ret
          exact ⟨by rw [HF.out]; rfl, B0.out.trans ((HW2.out.trans ((hB.trans (t9.b.mono hB.size)).mono HW2.out.size)).mono B0.out.size)⟩
      · have HF : Hid (kFF x y = true) := hJ (by rw [HN2.out]; exact kGD (by rw [HL1.out, HL2.out]) (fun j hj => HT.out j (by rw [HL1.out] at hj; omega)))
        go_wp2_with fail
        go_ret
        exact ⟨by rw [HF.out]; rfl, B0.out.trans ((HW2.out.trans (hB.mono HW2.out.size)).mono B0.out.size)⟩
end Go.Proofs.YtjongcdlginjlaaGreatDoor
