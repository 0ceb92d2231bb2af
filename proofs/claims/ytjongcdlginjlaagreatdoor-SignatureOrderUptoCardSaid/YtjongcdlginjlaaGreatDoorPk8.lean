/- The claim's texts, part 8: contracts of the functions that the statement reaches, and what they say of the data. -/
import Derived.Test.YtjongcdlginjlaaGreatDoorPk7
set_option maxRecDepth 100000
set_option linter.all false
namespace Go.Proofs.YtjongcdlginjlaaGreatDoor
open Go.RowKit
def subSch (b : List Bnd) (s : Sch) : Sch := if subSchOk b s then subSchR b s else noSch
def subSchE (b : List Bnd) (s : Sch) : Int := if subSchOk b s then 0 else 3
theorem sch_no {b : List Bnd} {s : Sch} (h : subSchOk b s = false) : subSch b s = noSch ∧ subSchE b s = 3 := by
  unfold subSch subSchE
  rw [h]
  exact ⟨rfl, rfl⟩
theorem sch_badP {b : List Bnd} {s : Sch} {i : Nat} (hi : i < s.params.length) (h : subShpOk b (s.params.getD i default).shape = false) : subSch b s = noSch ∧ subSchE b s = 3 := sch_no (by
  have : s.params.all (fun t => subShpOk b t.shape) = false := List.all_eq_false.2 ⟨_, getD_mem hi, by rw [h]; decide⟩
  unfold subSchOk
  rw [this]; simp)
theorem sch_badR {b : List Bnd} {s : Sch} (h : subShpOk b s.result.shape = false) : subSch b s = noSch ∧ subSchE b s = 3 := sch_no (by
  unfold subSchOk
  rw [h]; simp)
theorem sch_badW {b : List Bnd} {s : Sch} {i : Nat} (hi : i < s.wh.length) (h : validLin (subRaw b (s.wh.getD i default)) = false) : subSch b s = noSch ∧ subSchE b s = 3 := sch_no (by
  have : s.wh.all (fun x => validLin (subRaw b x)) = false := List.all_eq_false.2 ⟨_, getD_mem hi, by rw [h]; decide⟩
  unfold subSchOk
  rw [this]; simp)
theorem all_getD {α : Type} [Inhabited α] {l : List α} {p : α → Bool} (h : ∀ i, i < l.length → p (l.getD i default) = true) : l.all p = true := by
  rw [List.all_eq_true]
  intro x hx
  obtain ⟨i, hi, e⟩ := List.getElem_of_mem hx
  have := h i hi
  rw [List.getD_eq_getElem?_getD, List.getElem?_eq_getElem hi] at this
  rw [← e]; exact this
theorem sch_good {b : List Bnd} {s : Sch} (hv : validSch s = true) (hb : validBnds b = true) (h1 : ∀ i, i < s.params.length → subShpOk b (s.params.getD i default).shape = true) (h2 : subShpOk b s.result.shape = true) (h3 : ∀ i, i < s.wh.length → validLin (subRaw b (s.wh.getD i default)) = true) : subSch b s = subSchR b s ∧ subSchE b s = 0 := by
  have : subSchOk b s = true := by
    unfold subSchOk
    rw [hv, hb, all_getD (p := fun t : Typ => subShpOk b t.shape) h1, h2, all_getD (p := fun x => validLin (subRaw b x)) h3]; rfl
  unfold subSch subSchE
  rw [this]
  exact ⟨rfl, rfl⟩
theorem Bx.other3 {w : World} {g g' : Nat} {E : TypeId} {cs : List Value} (h : Bx w g E cs) (hne : g' ≠ g) (a b c : Value) : Bx (((w.setCell ⟨g', 0, none⟩ a).setCell ⟨g', 1, none⟩ b).setCell ⟨g', 2, none⟩ c) g E cs := ((h.other hne).other hne).other hne
theorem Bx.other2 {w : World} {g g' : Nat} {E : TypeId} {cs : List Value} (h : Bx w g E cs) (hne : g' ≠ g) (a b : Value) : Bx ((w.setCell ⟨g', 0, none⟩ a).setCell ⟨g', 1, none⟩ b) g E cs := (h.other hne).other hne
def OwnSch (B : Nat) (w : World) (ds : List Value) (s : Sch) : Prop := ∃ base p t q, B ≤ base ∧ ds = [p, .string s.result.elem, .string s.result.shape.row, t, q] ∧ SlV RTyp (fun k => B ≤ k ∧ k < base) w p s.params ∧ SlV RLin (fun k => B ≤ k ∧ k < base) w t s.result.shape.dims ∧ Own RLin 65 (fun k => base ≤ k) w base q s.wh
theorem OwnSch.no (B : Nat) (w : World) : OwnSch B w [.slice none 0 0, .string ⟨#[]⟩, .string ⟨#[]⟩, .slice none 0 0, .slice none 0 0] noSch :=
  ⟨B, _, _, _, Nat.le_refl _, rfl, ⟨none, 0, rfl, Sl.empty _ _ _⟩, ⟨none, 0, rfl, Sl.empty _ _ _⟩, Own.nil _ _ _ _ _⟩
theorem OwnSch.rd {B : Nat} {w : World} {ds : List Value} {s : Sch} (h : OwnSch B w ds s) : RSch.rd (fun k => B ≤ k) w ds s := by
  obtain ⟨base, p, t, q, hb, rfl, h1, h2, h3⟩ := h; obtain ⟨a, c, rfl, h4⟩ := h3.sl
  exact ⟨p, t, _, rfl, h1.mono (fun k hk _ => hk.1), h2.mono (fun k hk _ => hk.1), ⟨a, c, rfl, h4.mono (fun k hk _ => by have : base ≤ k := hk.elim id id; omega)⟩⟩
set_option maxHeartbeats 4000000 in
theorem types_SubstScheme {S T : Blk} {s : Sch} {cs : List Value} {w : World} (h : RSch.rd S w cs s) (hv : validSch s = true) (b : List Bnd) (a : Option Addr) (nb cb : Nat) (hbs : Sl RBnd T w a nb cb b) (hb : validBnds b = true) (hp : PlainB b) (E : Env w) :
    Calls Tryz.prog 58 #[.agg cs.toArray, .slice a nb cb] w fun e w' => (∃ ds, e = .returned (.tuple #[.agg ds.toArray, .int .i64 (subSchE b s)]) ∧ OwnSch w.heap.size w' ds (subSch b s)) ∧ Below w.heap.size w w' := by
  have HCV : Hid (∀ W, Below w.heap.size w W → Calls Tryz.prog 36 #[.agg cs.toArray] W fun e w' => e = .returned (.bool true) ∧ Below W.heap.size W w') :=
    Lib.hid (fun W hW => hv ▸ types_ValidScheme (RSch.below h hW) (sch_sz hv) (E.below hW))
  have HCB : Hid (∀ W, Below w.heap.size w W → Calls Tryz.prog 104 #[.slice a nb cb] W fun e w' => e = .returned (.bool true) ∧ Below W.heap.size W w') :=
    Lib.hid (fun W hW => shape_ValidBinds b a nb cb W (hbs.below hW) hb (E.below hW))
  have EE := Lib.hid E
  have HCT := Lib.hid (fun (W : World) (hW : Below w.heap.size w W) (x : Typ) (ds : List Value) (hx : RTyp.rd S W ds x) (hvx : validTyp x = true) => types_Subst hx hvx b a nb cb (hbs.below hW) hb hp (E.below hW))
  have HCL := Lib.hid (fun (W : World) (hW : Below w.heap.size w W) (x : Lin) (ds : List Value) (hx : RLin.rd S W ds x) (hvx : validLin x = true) => linear_Subst hx hvx b a nb cb (hbs.below hW) (validBnds_good hb) (E.below hW))
  obtain ⟨_, _, _, rfl, ⟨ap, cp, rfl, hps⟩, ⟨ar, cr, rfl, hrs⟩, ⟨aq, cq, rfl, hqs⟩⟩ := h; have HPs := Lib.hid hps; have HRs := Lib.hid hrs; have HQs := Lib.hid hqs; have HV := Lib.hid (validSch_parts hv)
  have HGood := Lib.hid (fun q1 q2 q3 => sch_good (b := b) (s := s) hv hb q1 q2 q3)
  have hpm := hps.small; have hqm := hqs.small; have hp12 := (validSch_parts hv).1; have hq60 := (validSch_parts hv).2.1; clear hps hrs hqs hbs hv hb hp
  generalize hnn : s.params.length = n at *
  generalize hmm : s.wh.length = m at *
  have HN := Lib.hid hnn; have HM := Lib.hid hmm; clear hnn hmm
  have B0 : Hid (Below w.heap.size w ((w.alloc (.cells #[.slice ap n cp, .string s.result.elem, .string s.result.shape.row, .slice ar s.result.shape.dims.length cr, .slice aq m cq] 41)).alloc (.cells #[.slice none 0 0, .string ⟨#[]⟩, .string ⟨#[]⟩, .slice none 0 0, .slice none 0 0] 41))) := Lib.hid (((Below.refl _ _).alloc (by simp <;> omega) _).alloc (by simp <;> omega) _)
  have bka : Bx ((w.alloc (.cells #[.slice ap n cp, .string s.result.elem, .string s.result.shape.row, .slice ar s.result.shape.dims.length cr, .slice aq m cq] 41)).alloc (.cells #[.slice none 0 0, .string ⟨#[]⟩, .string ⟨#[]⟩, .slice none 0 0, .slice none 0 0] 41)) (w.heap.size) 41 [.slice ap n cp, .string s.result.elem, .string s.result.shape.row, .slice ar s.result.shape.dims.length cr, .slice aq m cq] := by have h := ((Bx.fresh w 41 [.slice ap n cp, .string s.result.elem, .string s.result.shape.row, .slice ar s.result.shape.dims.length cr, .slice aq m cq]).alloc (.cells #[.slice none 0 0, .string ⟨#[]⟩, .string ⟨#[]⟩, .slice none 0 0, .slice none 0 0] 41)); simpa using h
  have xa0 : ((w.alloc (.cells #[.slice ap n cp, .string s.result.elem, .string s.result.shape.row, .slice ar s.result.shape.dims.length cr, .slice aq m cq] 41)).alloc (.cells #[.slice none 0 0, .string ⟨#[]⟩, .string ⟨#[]⟩, .slice none 0 0, .slice none 0 0] 41)).cell? ⟨w.heap.size, 0, none⟩ = some (.slice ap n cp) := bka.cell 0 _ rfl
  have xa1 : ((w.alloc (.cells #[.slice ap n cp, .string s.result.elem, .string s.result.shape.row, .slice ar s.result.shape.dims.length cr, .slice aq m cq] 41)).alloc (.cells #[.slice none 0 0, .string ⟨#[]⟩, .string ⟨#[]⟩, .slice none 0 0, .slice none 0 0] 41)).cell? ⟨w.heap.size, 1, none⟩ = some (.string s.result.elem) := bka.cell 1 _ rfl
  have xa2 : ((w.alloc (.cells #[.slice ap n cp, .string s.result.elem, .string s.result.shape.row, .slice ar s.result.shape.dims.length cr, .slice aq m cq] 41)).alloc (.cells #[.slice none 0 0, .string ⟨#[]⟩, .string ⟨#[]⟩, .slice none 0 0, .slice none 0 0] 41)).cell? ⟨w.heap.size, 2, none⟩ = some (.string s.result.shape.row) := bka.cell 2 _ rfl
  have xa3 : ((w.alloc (.cells #[.slice ap n cp, .string s.result.elem, .string s.result.shape.row, .slice ar s.result.shape.dims.length cr, .slice aq m cq] 41)).alloc (.cells #[.slice none 0 0, .string ⟨#[]⟩, .string ⟨#[]⟩, .slice none 0 0, .slice none 0 0] 41)).cell? ⟨w.heap.size, 3, none⟩ = some (.slice ar s.result.shape.dims.length cr) := bka.cell 3 _ rfl
  have xa4 : ((w.alloc (.cells #[.slice ap n cp, .string s.result.elem, .string s.result.shape.row, .slice ar s.result.shape.dims.length cr, .slice aq m cq] 41)).alloc (.cells #[.slice none 0 0, .string ⟨#[]⟩, .string ⟨#[]⟩, .slice none 0 0, .slice none 0 0] 41)).cell? ⟨w.heap.size, 4, none⟩ = some (.slice aq m cq) := bka.cell 4 _ rfl
  have bkb : Bx ((w.alloc (.cells #[.slice ap n cp, .string s.result.elem, .string s.result.shape.row, .slice ar s.result.shape.dims.length cr, .slice aq m cq] 41)).alloc (.cells #[.slice none 0 0, .string ⟨#[]⟩, .string ⟨#[]⟩, .slice none 0 0, .slice none 0 0] 41)) (w.heap.size + 1) 41 [.slice none 0 0, .string ⟨#[]⟩, .string ⟨#[]⟩, .slice none 0 0, .slice none 0 0] := by have h := (Bx.fresh (w.alloc (.cells #[.slice ap n cp, .string s.result.elem, .string s.result.shape.row, .slice ar s.result.shape.dims.length cr, .slice aq m cq] 41)) 41 [.slice none 0 0, .string ⟨#[]⟩, .string ⟨#[]⟩, .slice none 0 0, .slice none 0 0]); simpa using h
  have xb0 : ((w.alloc (.cells #[.slice ap n cp, .string s.result.elem, .string s.result.shape.row, .slice ar s.result.shape.dims.length cr, .slice aq m cq] 41)).alloc (.cells #[.slice none 0 0, .string ⟨#[]⟩, .string ⟨#[]⟩, .slice none 0 0, .slice none 0 0] 41)).cell? ⟨w.heap.size + 1, 0, none⟩ = some (.slice none 0 0) := bkb.cell 0 _ rfl
  have xb1 : ((w.alloc (.cells #[.slice ap n cp, .string s.result.elem, .string s.result.shape.row, .slice ar s.result.shape.dims.length cr, .slice aq m cq] 41)).alloc (.cells #[.slice none 0 0, .string ⟨#[]⟩, .string ⟨#[]⟩, .slice none 0 0, .slice none 0 0] 41)).cell? ⟨w.heap.size + 1, 1, none⟩ = some (.string ⟨#[]⟩) := bkb.cell 1 _ rfl
  have xb2 : ((w.alloc (.cells #[.slice ap n cp, .string s.result.elem, .string s.result.shape.row, .slice ar s.result.shape.dims.length cr, .slice aq m cq] 41)).alloc (.cells #[.slice none 0 0, .string ⟨#[]⟩, .string ⟨#[]⟩, .slice none 0 0, .slice none 0 0] 41)).cell? ⟨w.heap.size + 1, 2, none⟩ = some (.string ⟨#[]⟩) := bkb.cell 2 _ rfl
  have xb3 : ((w.alloc (.cells #[.slice ap n cp, .string s.result.elem, .string s.result.shape.row, .slice ar s.result.shape.dims.length cr, .slice aq m cq] 41)).alloc (.cells #[.slice none 0 0, .string ⟨#[]⟩, .string ⟨#[]⟩, .slice none 0 0, .slice none 0 0] 41)).cell? ⟨w.heap.size + 1, 3, none⟩ = some (.slice none 0 0) := bkb.cell 3 _ rfl
  have xb4 : ((w.alloc (.cells #[.slice ap n cp, .string s.result.elem, .string s.result.shape.row, .slice ar s.result.shape.dims.length cr, .slice aq m cq] 41)).alloc (.cells #[.slice none 0 0, .string ⟨#[]⟩, .string ⟨#[]⟩, .slice none 0 0, .slice none 0 0] 41)).cell? ⟨w.heap.size + 1, 4, none⟩ = some (.slice none 0 0) := bkb.cell 4 _ rfl
  have hW0 : ((w.alloc (.cells #[.slice ap n cp, .string s.result.elem, .string s.result.shape.row, .slice ar s.result.shape.dims.length cr, .slice aq m cq] 41)).alloc (.cells #[.slice none 0 0, .string ⟨#[]⟩, .string ⟨#[]⟩, .slice none 0 0, .slice none 0 0] 41)).heap.size = w.heap.size + 2 := by simp
  have HA0 := Lib.hid bka; have HR0 := Lib.hid bkb; clear bka bkb
  go_enter Tryz.func58, Tryz.ntmps58
  go_wp2_with fail
  refine (HCV.out _ B0.out).mono ?_
  rintro e w1 ⟨rfl, hb1⟩
  have hW1 := B0.out.trans (hb1.mono B0.out.size)
  go_wp2_with fail
  refine (HCB.out _ hW1).mono ?_
  rintro e w2 ⟨rfl, hb2⟩
  have HW := Lib.hid (hW1.trans (hb2.mono hW1.size)); have HA2 := Lib.hid ((HA0.out.below hb1 HA0.out.lt).below hb2 (HA0.out.below hb1 HA0.out.lt).lt); have HR2 := Lib.hid ((HR0.out.below hb1 HR0.out.lt).below hb2 (HR0.out.below hb1 HR0.out.lt).lt); have hlR := HR2.out.lt; have hlA := HA2.out.lt; clear xa0 xa1 xa2 xa3 xa4 xb0 xb1 xb2 xb3 xb4 hb1 hb2 hW1 HR0 HA0 B0 HCV HCB; obtain ⟨w3, hw3⟩ : ∃ q, q = w2.alloc (.cells #[.slice none 0 0, .string ⟨#[]⟩, .string ⟨#[]⟩, .slice none 0 0, .slice none 0 0] 41) := ⟨_, rfl⟩; have hfold := hw3.symm
  have HG3 : Hid (Bx w3 w2.heap.size 41 [.slice none 0 0, .string ⟨#[]⟩, .string ⟨#[]⟩, .slice none 0 0, .slice none 0 0]) := Lib.hid (by rw [hw3]; exact Bx.fresh _ _ _)
  have HB3 : Hid (Below w2.heap.size w2 w3) := Lib.hid (by rw [hw3]; exact (Below.refl _ _).alloc (Nat.le_refl _) _)
  clear hw3; have HA3 := Lib.hid (HA2.out.below HB3.out hlA); have y0 := HA3.out.cell 0 _ rfl; have y1 := HA3.out.cell 1 _ rfl; have y2 := HA3.out.cell 2 _ rfl; have y3 := HA3.out.cell 3 _ rfl; have y4 := HA3.out.cell 4 _ rfl
  go_wp2_with fail
  go_loopw [24] (fun i wr => ∃ (k : Nat) (v0 : Value), k ≤ n ∧ i = .int .i64 k ∧ Hid (∀ j, j < k → subShpOk b (s.params.getD j default).shape = true) ∧ Hid (Own RTyp 39 (fun q => w2.heap.size < q) wr (w2.heap.size + 1) v0 ((s.params.take k).map (subTypR b))) ∧ Hid (Bx wr w2.heap.size 41 [v0, .string ⟨#[]⟩, .string ⟨#[]⟩, .slice none 0 0, .slice none 0 0]) ∧ Below w2.heap.size w2 wr) (fun i _ => n - (intOf i).toNat)
  case atStart => exact ⟨0, _, Nat.zero_le _, rfl, Lib.hid (fun i hi => absurd hi (by omega)), Lib.hid (Own.nil _ _ _ _ _), HG3, HB3.out⟩
  case round =>
    obtain ⟨k, v0, hk, rfl, HT, HO, HG, hB⟩ := hrel; have HBw := Lib.hid (HW.out.trans (hB.mono HW.out.size)); have HRr := Lib.hid (HR2.out.below hB hlR); have hlG := HG.out.lt; obtain ⟨a0, m0, c0, rfl⟩ := HO.out.shape
    by_cases hlt : k < n
    · obtain ⟨b1, off, rfl, hbW, _⟩ := HPs.out.form k hlt
      obtain ⟨t, hr, ⟨at_, ct, rfl, hts⟩, e0, e1, e2⟩ := (HPs.out.below HBw.out).typ k hlt
      have HK : Hid (k < s.params.length) := Lib.hid (by rw [HN.out]; exact hlt)
      have HNext : Hid ((s.params.take (k + 1)).map (subTypR b) = (s.params.take k).map (subTypR b) ++ [subTypR b (s.params.getD k default)]) := Lib.hid (by rw [take_one HK.out, List.map_append]; rfl)
      have hkl : ((s.params.take k).map (subTypR b)).length = k := by rw [List.length_map, List.length_take, HN.out]; omega
      have HBad := Lib.hid (fun q => sch_badP (b := b) HK.out q)
      have HUp := Lib.hid (fun q => upto HT.out (p := fun j => subShpOk b (s.params.getD j default).shape = true) q)
      have HXv := Lib.hid (HV.out.2.2.1 _ (getD_mem HK.out))
      generalize s.params.getD k default = x at *
      generalize (s.params.take k).map (subTypR b) = lk at *
      have hA : Below wr.heap.size wr (wr.alloc (.cells #[.string x.elem, .string x.shape.row, .slice at_ x.shape.dims.length ct] 39)) := (Below.refl _ _).alloc (Nat.le_refl _) _
      have HCx := Lib.hid (HCT.out _ (HBw.out.trans (hA.mono HBw.out.size)) x _ (RTyp.below hr hA) HXv.out); clear hr hts
      cases hok : subShpOk b x.shape with
      | false =>
        have HBd := Lib.hid (HBad.out hok); rw [(subTyp_no hok).1, (subTyp_no hok).2.1] at HCx; clear hok
        go_wp2_with fail
        refine HCx.out.mono ?_
        rintro e w5 ⟨⟨_, rfl, hr5⟩, hb5⟩
        obtain ⟨_, rfl, a5, c5, rfl, hs5⟩ := hr5; have HP5 := Lib.hid ((Bx.fresh wr 39 [.string x.elem, .string x.shape.row, .slice at_ x.shape.dims.length ct]).below hb5 (Bx.fresh _ _ _).lt); have p0 := HP5.out.cell 0 _ rfl; have p1 := HP5.out.cell 1 _ rfl; have p2 := HP5.out.cell 2 _ rfl; have u10 := HP5.out.fz 0; have u11 := HP5.out.fz 1; have u12 := HP5.out.fz 2
        have HB5 := Lib.hid (hA.trans (hb5.mono (by simp)))
        have HR5 := Lib.hid (HRr.out.below HB5.out HRr.out.lt); obtain ⟨w7, hfold7⟩ : ∃ q, ((w5.setCell ⟨wr.heap.size, 0, none⟩ (.string noTyp.elem)).setCell ⟨wr.heap.size, 1, none⟩ (.string noTyp.shape.row)).setCell ⟨wr.heap.size, 2, none⟩ (.slice a5 noTyp.shape.dims.length c5) = q := ⟨_, rfl⟩
        have HRw := Lib.hid (HR5.out.other3 (g' := wr.heap.size) (by omega) (.string noTyp.elem) (.string noTyp.shape.row) (.slice a5 noTyp.shape.dims.length c5))
        rw [hfold7] at HRw
        have HWw : Hid (Below w.heap.size w w7) := Lib.hid (by rw [← hfold7]; exact (((HBw.out.trans (HB5.out.mono HBw.out.size)).setCell (by show _ ≤ wr.heap.size; omega) _).setCell (by show _ ≤ wr.heap.size; omega) _).setCell (by show _ ≤ wr.heap.size; omega) _)
        have v0 := HRw.out.cell 0 _ rfl; have v1 := HRw.out.cell 1 _ rfl; have v2 := HRw.out.cell 2 _ rfl; have v3 := HRw.out.cell 3 _ rfl; have v4 := HRw.out.cell 4 _ rfl; have u0 := HRw.out.fz 0; have u1 := HRw.out.fz 1; have u2 := HRw.out.fz 2; have u3 := HRw.out.fz 3; have u4 := HRw.out.fz 4; have hlr := HRw.out.lt; have HX60 := Lib.hid (((((HRw.out.set 0 (.slice none 0 0)).set 1 (.string ⟨#[]⟩)).set 2 (.string ⟨#[]⟩)).set 3 (.slice none 0 0)).set 4 (.slice none 0 0)); have s0 := HX60.out.cell 0 _ rfl; have s1 := HX60.out.cell 1 _ rfl; have s2 := HX60.out.cell 2 _ rfl; have s3 := HX60.out.cell 3 _ rfl; have s4 := HX60.out.cell 4 _ rfl
        go_wp2_with fail
        refine bodyPost_ret (v := .tuple #[.agg #[.slice none 0 0, .string ⟨#[]⟩, .string ⟨#[]⟩, .slice none 0 0, .slice none 0 0], .int .i64 3]) (by simp [results, Tryz.results58, go_sem, s0, s1, s2, s3, s4, hlr]) rfl ?_
        refine ⟨⟨[.slice none 0 0, .string ⟨#[]⟩, .string ⟨#[]⟩, .slice none 0 0, .slice none 0 0], by rw [HBd.out.2], by rw [HBd.out.1]; exact OwnSch.no ..⟩, ?_⟩
        repeat (first | exact HWw.out | refine Below.setCell ?_ (by show _ ≤ w.heap.size + 1; omega) _)
      | true =>
        have HUp := Lib.hid (HUp.out hok); rw [(subTyp_ok hok).1, (subTyp_ok hok).2.1] at HCx; clear hok HBad
        go_wp2_with fail
        refine HCx.out.mono ?_
        rintro e w5 ⟨⟨_, rfl, hr5⟩, hb5⟩
        obtain ⟨_, rfl, a5, c5, rfl, hs5⟩ := hr5
        generalize subTypR b x = y at *
        have HP5 := Lib.hid ((Bx.fresh wr 39 [.string x.elem, .string x.shape.row, .slice at_ x.shape.dims.length ct]).below hb5 (Bx.fresh _ _ _).lt)
        have HB5 := Lib.hid (hA.trans (hb5.mono (by simp)))
        have p0 := HP5.out.cell 0 _ rfl; have p1 := HP5.out.cell 1 _ rfl; have p2 := HP5.out.cell 2 _ rfl; have u10 := HP5.out.fz 0; have u11 := HP5.out.fz 1; have u12 := HP5.out.fz 2; obtain ⟨w7, hfold7⟩ : ∃ q, ((w5.setCell ⟨wr.heap.size, 0, none⟩ (.string y.elem)).setCell ⟨wr.heap.size, 1, none⟩ (.string y.shape.row)).setCell ⟨wr.heap.size, 2, none⟩ (.slice a5 y.shape.dims.length c5) = q := ⟨_, rfl⟩
        have HB7 : Hid (Below wr.heap.size wr w7) := Lib.hid (by rw [← hfold7]; exact ((HB5.out.setCell (by exact Nat.le_refl _) _).setCell (by exact Nat.le_refl _) _).setCell (by exact Nat.le_refl _) _)
        have HP7 := Lib.hid (((HP5.out.set 0 (.string y.elem)).set 1 (.string y.shape.row)).set 2 (.slice a5 y.shape.dims.length c5)); rw [hfold7] at HP7; have r0 := HP7.out.cell 0 _ rfl; have r1 := HP7.out.cell 1 _ rfl; have r2 := HP7.out.cell 2 _ rfl; have HG7 := Lib.hid (HG.out.below HB7.out hlG); have g0 := HG7.out.cell 0 _ rfl; have hs7 := HB7.out.size
        have HRY : Hid (RTyp.rd (fun q => w2.heap.size < q ∧ (Value.slice a0 m0 c0).ownBlock ≠ some q) w7 [.string y.elem, .string y.shape.row, .slice a5 y.shape.dims.length c5] y) := Lib.hid ⟨_, rfl, a5, c5, rfl, by
          rw [← hfold7]
          have h1 := hs5.mono (S' := fun q => wr.heap.size < q) (fun q hq _ => by have hq : wr.heap.size + 1 ≤ q := by simpa using hq
                                                                                  omega)
          refine Sl.mono (S := fun q => wr.heap.size < q) ?_ (fun q hq _ => ⟨by have : wr.heap.size < q := hq; omega, fun e => by have h8 := (HO.out.block e).2; have : wr.heap.size < q := hq; omega⟩)
          exact ((h1.set (fun q hq => Nat.ne_of_lt hq)).set (fun q hq => Nat.ne_of_lt hq)).set (fun q hq => Nat.ne_of_lt hq)⟩
        clear hs5 hb5 HP5
        go_wp2_with (at_builtin; refine app_one elemTyp rfl _ _ rfl (w2.heap.size + 1) _ _ rfl ((HO.out.below HB7.out).alloc _) _ y [.string y.elem, .string y.shape.row, .slice a5 y.shape.dims.length c5] rfl (RTyp.below HRY.out ((Below.refl _ _).alloc (Nat.le_refl _) _)) (cellsN 39 (by (simp only [drew_heap, alloc_heap, Array.getElem?_push, Array.size_push]; simp))) (by omega) (by unfold maxLen; omega) (by simp; omega) ?_; intro v9 w9 hown9 hb9 hk9; obtain ⟨a9, m9, c9, rfl⟩ := hown9.shape; have HG9 := Lib.hid ((HG7.out.alloc _).kp hk9 (HO.out.ne (Nat.lt_succ_self _))); have g9 := HG9.out.cell 0 _ rfl; have u9 := HG9.out.fz 0)
        go_roundw
        case rel => exact ⟨k + 1, _, by omega, by go_num, HUp, Lib.hid (by rw [HNext.out]; exact hown9.set _ (fun q hq => Nat.ne_of_gt hq) (Nat.lt_succ_self _)), Lib.hid (HG9.out.set 0 _), ((hB.trans (HB7.out.mono hB.size)).trans (((Below.refl _ _).alloc (by omega) _).trans (hb9.mono (Nat.le_succ _)))).setCell (Nat.le_refl _) _⟩
        case measure => simp [intOf]; omega
    · obtain rfl : k = n := by omega
      have HAll : Hid ((s.params.take k).map (subTypR b) = s.params.map (subTypR b)) := Lib.hid (by rw [List.take_of_length_le (by rw [HN.out]; exact Nat.le_refl _)])
      rw [HAll.out] at HO; have HAr := Lib.hid (HA2.out.below hB hlA); have y0 := HAr.out.cell 0 _ rfl; have y1 := HAr.out.cell 1 _ rfl; have y2 := HAr.out.cell 2 _ rfl; have y3 := HAr.out.cell 3 _ rfl; have y4 := HAr.out.cell 4 _ rfl; have HCx := Lib.hid (HCT.out _ HBw.out s.result _ ⟨_, rfl, ar, cr, rfl, HRs.out.below HBw.out⟩ HV.out.2.2.2.1); have g0 := HG.out.cell 0 _ rfl
      cases hok : subShpOk b s.result.shape with
      | false =>
        have HBd := Lib.hid (sch_badR (b := b) hok); rw [(subTyp_no hok).1, (subTyp_no hok).2.1] at HCx; clear hok
        go_wp2_with fail
        refine HCx.out.mono ?_
        rintro e w5 ⟨⟨_, rfl, hr5⟩, hb5⟩
        obtain ⟨_, rfl, a5, c5, rfl, hs5⟩ := hr5; have HB5 := Lib.hid hb5; have HG5 := Lib.hid (HG.out.below hb5 hlG); have HR5 := Lib.hid (HRr.out.below hb5 HRr.out.lt); have g1 := HG5.out.cell 1 _ rfl; have g2 := HG5.out.cell 2 _ rfl; have g3 := HG5.out.cell 3 _ rfl; have u11 := HG5.out.fz 1; have u12 := HG5.out.fz 2; have u13 := HG5.out.fz 3; obtain ⟨w7, hfold7⟩ : ∃ q, ((w5.setCell ⟨w2.heap.size, 1, none⟩ (.string noTyp.elem)).setCell ⟨w2.heap.size, 2, none⟩ (.string noTyp.shape.row)).setCell ⟨w2.heap.size, 3, none⟩ (.slice a5 noTyp.shape.dims.length c5) = q := ⟨_, rfl⟩
        have HRw := Lib.hid (((HR5.out.other (a := ⟨w2.heap.size, 1, none⟩) (u := .string noTyp.elem) (by show w2.heap.size ≠ _; omega)).other (a := ⟨w2.heap.size, 2, none⟩) (u := .string noTyp.shape.row) (by show w2.heap.size ≠ _; omega)).other (a := ⟨w2.heap.size, 3, none⟩) (u := .slice a5 noTyp.shape.dims.length c5) (by show w2.heap.size ≠ _; omega))
        rw [hfold7] at HRw; have hsz2 := HW.out.size
        have HWw : Hid (Below w.heap.size w w7) := Lib.hid (by rw [← hfold7]; exact (((HBw.out.trans (HB5.out.mono HBw.out.size)).setCell (by show _ ≤ w2.heap.size; omega) _).setCell (by show _ ≤ w2.heap.size; omega) _).setCell (by show _ ≤ w2.heap.size; omega) _)
        have v0 := HRw.out.cell 0 _ rfl; have v1 := HRw.out.cell 1 _ rfl; have v2 := HRw.out.cell 2 _ rfl; have v3 := HRw.out.cell 3 _ rfl; have v4 := HRw.out.cell 4 _ rfl; have u0 := HRw.out.fz 0; have u1 := HRw.out.fz 1; have u2 := HRw.out.fz 2; have u3 := HRw.out.fz 3; have u4 := HRw.out.fz 4; have hlr := HRw.out.lt; have HX60 := Lib.hid (((((HRw.out.set 0 (.slice none 0 0)).set 1 (.string ⟨#[]⟩)).set 2 (.string ⟨#[]⟩)).set 3 (.slice none 0 0)).set 4 (.slice none 0 0)); have s0 := HX60.out.cell 0 _ rfl; have s1 := HX60.out.cell 1 _ rfl; have s2 := HX60.out.cell 2 _ rfl; have s3 := HX60.out.cell 3 _ rfl; have s4 := HX60.out.cell 4 _ rfl
        go_wp2_with fail
        refine bodyPost_ret (v := .tuple #[.agg #[.slice none 0 0, .string ⟨#[]⟩, .string ⟨#[]⟩, .slice none 0 0, .slice none 0 0], .int .i64 3]) (by simp [results, Tryz.results58, go_sem, s0, s1, s2, s3, s4, hlr]) rfl ?_
        refine ⟨⟨[.slice none 0 0, .string ⟨#[]⟩, .string ⟨#[]⟩, .slice none 0 0, .slice none 0 0], by rw [HBd.out.2], by rw [HBd.out.1]; exact OwnSch.no ..⟩, ?_⟩
        repeat (first | exact HWw.out | refine Below.setCell ?_ (by show _ ≤ w.heap.size + 1; omega) _)
      | true =>
        have HokR := Lib.hid hok; rw [(subTyp_ok hok).1, (subTyp_ok hok).2.1] at HCx; clear hok
        go_wp2_with fail
        refine HCx.out.mono ?_
        rintro e w5 ⟨⟨_, rfl, hr5⟩, hb5⟩
        obtain ⟨_, rfl, a5, c5, rfl, hs5⟩ := hr5; obtain ⟨y, hy⟩ : ∃ y, y = subTypR b s.result := ⟨_, rfl⟩; have HY := Lib.hid hy
        rw [← hy] at hs5 ⊢
        clear hy; have HB5 := Lib.hid hb5; have HG5 := Lib.hid (HG.out.below hb5 hlG); have HR5 := Lib.hid (HRr.out.below hb5 HRr.out.lt); have HA5 := Lib.hid (HAr.out.below hb5 HAr.out.lt); have g1 := HG5.out.cell 1 _ rfl; have g2 := HG5.out.cell 2 _ rfl; have g3 := HG5.out.cell 3 _ rfl; have u11 := HG5.out.fz 1; have u12 := HG5.out.fz 2; have u13 := HG5.out.fz 3; obtain ⟨w7, hfold7⟩ : ∃ q, ((w5.setCell ⟨w2.heap.size, 1, none⟩ (.string y.elem)).setCell ⟨w2.heap.size, 2, none⟩ (.string y.shape.row)).setCell ⟨w2.heap.size, 3, none⟩ (.slice a5 y.shape.dims.length c5) = q := ⟨_, rfl⟩
        have hne : ∀ g, g < w2.heap.size → w2.heap.size ≠ g := fun g hg => by omega
        have hsz2 := HW.out.size
        have HR7 : Hid (Bx w7 _ _ _) := Lib.hid (hfold7 ▸ ((HR5.out.other (a := ⟨w2.heap.size, 1, none⟩) (hne _ hlR)).other (a := ⟨w2.heap.size, 2, none⟩) (hne _ hlR)).other (a := ⟨w2.heap.size, 3, none⟩) (hne _ hlR))
        have HA7 : Hid (Bx w7 _ _ _) := Lib.hid (hfold7 ▸ ((HA5.out.other (a := ⟨w2.heap.size, 1, none⟩) (hne _ hlA)).other (a := ⟨w2.heap.size, 2, none⟩) (hne _ hlA)).other (a := ⟨w2.heap.size, 3, none⟩) (hne _ hlA))
        have HG7 : Hid (Bx w7 _ _ _) := Lib.hid (hfold7 ▸ ((HG5.out.set 1 (.string y.elem)).set 2 (.string y.shape.row)).set 3 (.slice a5 y.shape.dims.length c5))
        have HO7 : Hid (Own RTyp 39 (fun q => w2.heap.size < q) w7 _ _ _) := Lib.hid (hfold7 ▸ (((HO.out.below hb5).set (a := ⟨w2.heap.size, 1, none⟩) _ (fun q hq => Nat.ne_of_gt hq) (Nat.lt_succ_self _)).set (a := ⟨w2.heap.size, 2, none⟩) _ (fun q hq => Nat.ne_of_gt hq) (Nat.lt_succ_self _)).set (a := ⟨w2.heap.size, 3, none⟩) _ (fun q hq => Nat.ne_of_gt hq) (Nat.lt_succ_self _))
        have HS7 : Hid (Sl RLin (fun q => w2.heap.size < q) w7 _ _ _ _) := Lib.hid (hfold7 ▸ (((hs5.mono (S' := fun q => w2.heap.size < q) (fun q hq _ => by have hq : wr.heap.size ≤ q := hq; omega)).set (ad := ⟨w2.heap.size, 1, none⟩) (fun q hq => Nat.ne_of_lt hq)).set (ad := ⟨w2.heap.size, 2, none⟩) (fun q hq => Nat.ne_of_lt hq)).set (ad := ⟨w2.heap.size, 3, none⟩) (fun q hq => Nat.ne_of_lt hq))
        have HB7 : Hid (Below w2.heap.size w2 w7) := Lib.hid (by rw [← hfold7]; exact (((hB.trans (hb5.mono hB.size)).setCell (by exact Nat.le_refl _) _).setCell (by exact Nat.le_refl _) _).setCell (by exact Nat.le_refl _) _)
        have g4 := HA7.out.cell 4 _ rfl; have hl7 := HG7.out.lt; clear HCx HG HO HAr HRr HA2 HR2 HG5 HR5 HA5 HB5 hb5 hs5 hB HBw
        go_wp2_with fail
        have HMore : Hid (∀ W : World, W.heap[w.heap.size]? = w7.heap[w.heap.size]? → W.cell? ⟨w.heap.size, 4, none⟩ = some (.slice aq m cq)) := Lib.hid (fun W q => Bx.cell (w := W) (q.trans HA7.out) 4 _ rfl)
        go_loopw [60] (fun i wt => ∃ (k : Nat) (v0 : Value), k ≤ m ∧ i = .int .i64 k ∧ Hid (∀ j, j < k → validLin (subRaw b (s.wh.getD j default)) = true) ∧ Hid (Own RLin 65 (fun q => w7.heap.size ≤ q) wt w7.heap.size v0 ((s.wh.take k).map (subRaw b))) ∧ Hid (Bx wt w2.heap.size 41 [.slice a0 m0 c0, .string y.elem, .string y.shape.row, .slice a5 y.shape.dims.length c5, v0]) ∧ Below w2.heap.size w2 wt ∧ Hid (∀ q, q < w7.heap.size → q ≠ w2.heap.size → wt.heap[q]? = w7.heap[q]?) ∧ w7.heap.size ≤ wt.heap.size) (fun i _ => m - (intOf i).toNat)
        case atStart => exact ⟨0, _, Nat.zero_le _, rfl, Lib.hid (fun i hi => absurd hi (by omega)), Lib.hid (Own.nil _ _ _ _ _), HG7, HB7.out, Lib.hid (fun _ _ _ => rfl), Nat.le_refl _⟩
        case round =>
          clear HG7; obtain ⟨k, v0, hk, rfl, HTw, HOw, HG, hB, HKeep, hsz⟩ := hrel; have HBw := Lib.hid (HW.out.trans (hB.mono HW.out.size))
          have HRr : Hid (Bx wr _ _ _) := Lib.hid ((HKeep.out _ HR7.out.lt (by omega)).trans HR7.out)
          have hlG := HG.out.lt; have hlR := HRr.out.lt; obtain ⟨a6, m6, c6, rfl⟩ := HOw.out.shape
          have y4 := HMore.out wr (HKeep.out _ (by omega) (by omega))
          by_cases hlt : k < m
          · obtain ⟨b1, off, rfl, hbW, _⟩ := HQs.out.form k hlt
            obtain ⟨t, hr, ⟨at_, ct, rfl, hts⟩, e0, e1⟩ := (HQs.out.below HBw.out).lin k hlt
            have HK : Hid (k < s.wh.length) := Lib.hid (by rw [HM.out]; exact hlt)
            have HNext : Hid ((s.wh.take (k + 1)).map (subRaw b) = (s.wh.take k).map (subRaw b) ++ [subRaw b (s.wh.getD k default)]) := Lib.hid (by rw [take_one HK.out, List.map_append]; rfl)
            have hkl : ((s.wh.take k).map (subRaw b)).length = k := by rw [List.length_map, List.length_take, HM.out]; omega
            have HBad := Lib.hid (fun q => sch_badW (b := b) HK.out q)
            have HUp := Lib.hid (fun q => upto HTw.out (p := fun j => validLin (subRaw b (s.wh.getD j default)) = true) q)
            have HXv := Lib.hid (HV.out.2.2.2.2 _ (getD_mem HK.out))
            generalize s.wh.getD k default = x at *
            generalize (s.wh.take k).map (subRaw b) = lk at *
            have hA : Below wr.heap.size wr (wr.alloc (.cells #[.int .i64 x.const, .slice at_ x.terms.length ct] 65)) := (Below.refl _ _).alloc (Nat.le_refl _) _
            have HCx := Lib.hid (HCL.out _ (HBw.out.trans (hA.mono HBw.out.size)) x _ (RLin.below hr hA) HXv.out); clear hr hts
            cases hvx : validLin (subRaw b x) with
            | false =>
              have HBd := Lib.hid (HBad.out hvx); rw [(lim_bad hvx).2] at HCx; clear hvx
              generalize limL (subRaw b x) = z at *
              go_wp2_with fail
              refine HCx.out.mono ?_
              rintro e w5 ⟨⟨_, rfl, hr5⟩, hb5⟩
              obtain ⟨_, rfl, a8, c8, rfl, hs5⟩ := hr5; have HP5 := Lib.hid ((Bx.fresh wr 65 [.int .i64 x.const, .slice at_ x.terms.length ct]).below hb5 (Bx.fresh _ _ _).lt); have p0 := HP5.out.cell 0 _ rfl; have p1 := HP5.out.cell 1 _ rfl; have u10 := HP5.out.fz 0; have u11 := HP5.out.fz 1
              have HB5 := Lib.hid (hA.trans (hb5.mono (by simp)))
              have HR5 := Lib.hid (HRr.out.below HB5.out HRr.out.lt); obtain ⟨w8, hfold8⟩ : ∃ q, (w5.setCell ⟨wr.heap.size, 0, none⟩ (.int .i64 z.const)).setCell ⟨wr.heap.size, 1, none⟩ (.slice a8 z.terms.length c8) = q := ⟨_, rfl⟩
              have HRw := Lib.hid (HR5.out.other2 (g' := wr.heap.size) (by omega) (.int .i64 z.const) (.slice a8 z.terms.length c8))
              rw [hfold8] at HRw
              have HWw : Hid (Below w.heap.size w w8) := Lib.hid (by rw [← hfold8]; exact ((HBw.out.trans (HB5.out.mono HBw.out.size)).setCell (by show _ ≤ wr.heap.size; omega) _).setCell (by show _ ≤ wr.heap.size; omega) _)
              have v0 := HRw.out.cell 0 _ rfl; have v1 := HRw.out.cell 1 _ rfl; have v2 := HRw.out.cell 2 _ rfl; have v3 := HRw.out.cell 3 _ rfl; have v4 := HRw.out.cell 4 _ rfl; have u0 := HRw.out.fz 0; have u1 := HRw.out.fz 1; have u2 := HRw.out.fz 2; have u3 := HRw.out.fz 3; have u4 := HRw.out.fz 4; have hlr := HRw.out.lt; have HX60 := Lib.hid (((((HRw.out.set 0 (.slice none 0 0)).set 1 (.string ⟨#[]⟩)).set 2 (.string ⟨#[]⟩)).set 3 (.slice none 0 0)).set 4 (.slice none 0 0)); have s0 := HX60.out.cell 0 _ rfl; have s1 := HX60.out.cell 1 _ rfl; have s2 := HX60.out.cell 2 _ rfl; have s3 := HX60.out.cell 3 _ rfl; have s4 := HX60.out.cell 4 _ rfl
              go_wp2_with fail
              refine bodyPost_ret (v := .tuple #[.agg #[.slice none 0 0, .string ⟨#[]⟩, .string ⟨#[]⟩, .slice none 0 0, .slice none 0 0], .int .i64 3]) (by simp [results, Tryz.results58, go_sem, s0, s1, s2, s3, s4, hlr]) rfl ?_
              refine ⟨⟨[.slice none 0 0, .string ⟨#[]⟩, .string ⟨#[]⟩, .slice none 0 0, .slice none 0 0], by rw [HBd.out.2], by rw [HBd.out.1]; exact OwnSch.no ..⟩, ?_⟩
              repeat (first | exact HWw.out | refine Below.setCell ?_ (by show _ ≤ w.heap.size + 1; omega) _)
            | true =>
              have HUp2 := Lib.hid (HUp.out hvx); clear HUp; rw [(lim_good hvx).1, (lim_good hvx).2] at HCx; clear hvx HBad
              go_wp2_with fail
              refine HCx.out.mono ?_
              rintro e w5 ⟨⟨_, rfl, hr5⟩, hb5⟩
              obtain ⟨_, rfl, a8, c8, rfl, hs5⟩ := hr5
              generalize subRaw b x = z at *
              have HP5 := Lib.hid ((Bx.fresh wr 65 [.int .i64 x.const, .slice at_ x.terms.length ct]).below hb5 (Bx.fresh _ _ _).lt); have p0 := HP5.out.cell 0 _ rfl; have p1 := HP5.out.cell 1 _ rfl; have u10 := HP5.out.fz 0; have u11 := HP5.out.fz 1
              have HB5 := Lib.hid (hA.trans (hb5.mono (by simp)))
              obtain ⟨w8, hfold8⟩ : ∃ q, (w5.setCell ⟨wr.heap.size, 0, none⟩ (.int .i64 z.const)).setCell ⟨wr.heap.size, 1, none⟩ (.slice a8 z.terms.length c8) = q := ⟨_, rfl⟩
              have HB8 : Hid (Below wr.heap.size wr w8) := Lib.hid (by rw [← hfold8]; exact (HB5.out.setCell (by exact Nat.le_refl _) _).setCell (by exact Nat.le_refl _) _)
              have HP8 := Lib.hid ((HP5.out.set 0 (.int .i64 z.const)).set 1 (.slice a8 z.terms.length c8)); rw [hfold8] at HP8; have r0 := HP8.out.cell 0 _ rfl; have r1 := HP8.out.cell 1 _ rfl
              have HS8 : Hid (Sl RCoef (fun q => wr.heap.size ≤ q) w8 a8 z.terms.length c8 z.terms) := Lib.hid (by
                rw [← hfold8]
                have h1 := hs5.mono (S' := fun q => wr.heap.size < q) (fun q hq _ => by have hq : wr.heap.size + 1 ≤ q := by simpa using hq
                                                                                        omega)
                refine Sl.mono (S := fun q => wr.heap.size < q) ?_ (fun q hq _ => Nat.le_of_lt hq)
                exact (h1.set (fun q hq => Nat.ne_of_lt hq)).set (fun q hq => Nat.ne_of_lt hq))
              clear hs5 hb5 HP5; have HG8 := Lib.hid (HG.out.below HB8.out hlG); have g4 := HG8.out.cell 4 _ rfl; have hs8 := HB8.out.size
              have HRY : Hid (RLin.rd (fun q => w7.heap.size ≤ q ∧ (Value.slice a6 m6 c6).ownBlock ≠ some q) w8 [.int .i64 z.const, .slice a8 z.terms.length c8] z) := Lib.hid ⟨_, rfl, a8, c8, rfl, HS8.out.mono (fun q hq _ => ⟨by have : wr.heap.size ≤ q := hq; omega, fun e => by have h8 := (HOw.out.block e).2; have : wr.heap.size ≤ q := hq; omega⟩)⟩
              clear HS8
              go_wp2_with (at_builtin; refine app_one elemLin rfl _ _ rfl w7.heap.size _ _ rfl ((HOw.out.below HB8.out).alloc _) _ z [.int .i64 z.const, .slice a8 z.terms.length c8] rfl (RLin.below HRY.out ((Below.refl _ _).alloc (Nat.le_refl _) _)) (cellsN 65 (by (simp only [drew_heap, alloc_heap, Array.getElem?_push, Array.size_push]; simp))) (by omega) (by unfold maxLen; omega) (by simp; omega) ?_; intro v9 w9 hown9 hb9 hk9; obtain ⟨a9, m9, c9, rfl⟩ := hown9.shape; have HG9 := Lib.hid ((HG8.out.alloc _).kp hk9 (HOw.out.ne hl7)); have g9 := HG9.out.cell 4 _ rfl; have u9 := HG9.out.fz 4)
              go_roundw
              case rel => exact ⟨k + 1, _, by omega, by go_num, HUp2, Lib.hid (by rw [HNext.out]; exact hown9.set _ (fun q hq => Nat.ne_of_gt (Nat.lt_of_lt_of_le hl7 hq)) hl7), Lib.hid (HG9.out.set 4 _), ((hB.trans (HB8.out.mono hB.size)).trans (((Below.refl _ _).alloc (by omega) _).trans (hb9.mono (Nat.le_of_lt hl7)))).setCell (Nat.le_refl _) _, Lib.hid (fun q hq hne => (heap_set_ne (fun e => hne e.symm)).trans ((((Below.refl _ _).alloc (B := w7.heap.size) (by omega) _).trans hb9).block q hq |>.trans ((HB8.out.block q (by omega)).trans (HKeep.out q hq hne)))), by have := hb9.size; simp at this ⊢; omega⟩
              case measure => simp [intOf]; omega
          · obtain rfl : k = m := by omega
            have HAll : Hid ((s.wh.take k).map (subRaw b) = s.wh.map (subRaw b)) := Lib.hid (by rw [List.take_of_length_le (by rw [HM.out]; exact Nat.le_refl _)])
            rw [HAll.out] at HOw; obtain ⟨z1, z2⟩ := HGood.out HT.out HokR.out HTw.out; have HZ1 := Lib.hid z1; have HZ2 := Lib.hid z2; clear z1 z2; have g0 := HG.out.cell 0 _ rfl; have g1 := HG.out.cell 1 _ rfl; have g2 := HG.out.cell 2 _ rfl; have g3 := HG.out.cell 3 _ rfl; have g4 := HG.out.cell 4 _ rfl; have v0 := HRr.out.cell 0 _ rfl; have v1 := HRr.out.cell 1 _ rfl; have v2 := HRr.out.cell 2 _ rfl; have v3 := HRr.out.cell 3 _ rfl; have v4 := HRr.out.cell 4 _ rfl; have u0 := HRr.out.fz 0; have u1 := HRr.out.fz 1; have u2 := HRr.out.fz 2; have u3 := HRr.out.fz 3; have u4 := HRr.out.fz 4; have hlr := HRr.out.lt; have HX60 := Lib.hid (((((HRr.out.set 0 (.slice a0 m0 c0)).set 1 (.string y.elem)).set 2 (.string y.shape.row)).set 3 (.slice a5 y.shape.dims.length c5)).set 4 (.slice a6 m6 c6)); have s0 := HX60.out.cell 0 _ rfl; have s1 := HX60.out.cell 1 _ rfl; have s2 := HX60.out.cell 2 _ rfl; have s3 := HX60.out.cell 3 _ rfl; have s4 := HX60.out.cell 4 _ rfl
            go_wp2_with fail
            refine bodyPost_ret (v := .tuple #[.agg #[.slice a0 m0 c0, .string y.elem, .string y.shape.row, .slice a5 y.shape.dims.length c5, .slice a6 m6 c6], .int .i64 0]) (by simp [results, Tryz.results58, go_sem, s0, s1, s2, s3, s4, hlr]) rfl ?_
            refine ⟨⟨[.slice a0 m0 c0, .string y.elem, .string y.shape.row, .slice a5 y.shape.dims.length c5, .slice a6 m6 c6], by rw [HZ2.out], ?_⟩, ?_⟩
            · rw [HZ1.out]
              have q2 := (HS7.out.mono (S' := fun q => w2.heap.size < q ∧ q < w7.heap.size) (fun q hq hlt => ⟨hq, hlt⟩)).frame (w' := wr) (fun q hq hlt => HKeep.out q hlt (Nat.ne_of_gt hq.1))
              obtain ⟨a10, c10, e10, q1⟩ := HO7.out.sl
              have q1 := (q1.mono (S' := fun q => w2.heap.size < q ∧ q < w7.heap.size) (fun q hq hlt => ⟨hq.elim id id, hlt⟩)).frame (w' := wr) (fun q hq hlt => HKeep.out q hlt (Nat.ne_of_gt hq.1))
              rw [Value.slice.injEq] at e10; obtain ⟨rfl, rfl, rfl⟩ := e10
              have hR2 : ∀ {α : Type} {R : Rep α} {a : Option Addr} {n c : Nat} {l : List α}, Sl R (fun q => w2.heap.size < q ∧ q < w7.heap.size) wr a n c l → Sl R (fun k => w.heap.size ≤ k ∧ k < w7.heap.size) (((((wr.setCell ⟨w.heap.size + 1, 0, none⟩ (.slice a0 (s.params.map (subTypR b)).length c0)).setCell ⟨w.heap.size + 1, 1, none⟩ (.string y.elem)).setCell ⟨w.heap.size + 1, 2, none⟩ (.string y.shape.row)).setCell ⟨w.heap.size + 1, 3, none⟩ (.slice a5 y.shape.dims.length c5)).setCell ⟨w.heap.size + 1, 4, none⟩ (.slice a6 m6 c6)) a n c l := by
                intro α R a n c l hs
                have hne : ∀ q, (w2.heap.size < q ∧ q < w7.heap.size) → w.heap.size + 1 ≠ q := fun q hq => by omega
                exact (((((hs.set hne).set hne).set hne).set hne).set hne).mono (fun q hq _ => by omega)
              have hS3 : ∀ q, w7.heap.size ≤ q → q ≠ w.heap.size + 1 := fun q hq => by omega
              have hl3 : w.heap.size + 1 < w7.heap.size := by omega
              refine ⟨w7.heap.size, _, _, _, by omega, by rw [HY.out]; rfl, ⟨a0, c0, rfl, hR2 q1⟩, ⟨a5, c5, by first | rfl | (rw [HY.out]; rfl), ?_⟩, ((((HOw.out.set _ hS3 hl3).set _ hS3 hl3).set _ hS3 hl3).set _ hS3 hl3).set _ hS3 hl3⟩
              have := hR2 q2
              show Sl RLin _ _ a5 (subTypR b s.result).shape.dims.length c5 (subTypR b s.result).shape.dims
              rw [← HY.out]
              exact this
            · repeat (first | exact HBw.out | refine Below.setCell ?_ (by show _ ≤ w.heap.size + 1; omega) _)
end Go.Proofs.YtjongcdlginjlaaGreatDoor
namespace Go.Proofs.YtjongcdlginjlaaGreatDoor
open Go.RowKit
def canErr (s : Sch) : Int := if validSch s then subSchE (ren (varsSch s)) s else 1
theorem can_no {s : Sch} (h : validSch s = false) : canErr s = 1 ∧ can s = noSch := by
  unfold canErr can canOk subSchOk
  rw [h]; exact ⟨rfl, rfl⟩
theorem can_bad {s : Sch} (hv : validSch s = true) (h : subSchOk (ren (varsSch s)) s = false) : canErr s = 3 ∧ can s = noSch := by
  unfold canErr can canOk
  rw [hv, h, (sch_no h).2]; exact ⟨rfl, rfl⟩
theorem can_good {s : Sch} (hv : validSch s = true) (h : subSchOk (ren (varsSch s)) s = true) : canErr s = 0 ∧ can s = ⟨s.params.map (subTypR (ren (varsSch s))), subTypR (ren (varsSch s)) s.result, tidy (s.wh.map (subRaw (ren (varsSch s))))⟩ := by
  unfold canErr can canOk
  rw [hv, h]
  refine ⟨?_, rfl⟩
  show subSchE _ _ = 0
  unfold subSchE
  rw [h]; rfl
theorem ren_plain {l : List Bnd} (h : InvV l) : PlainB (ren l) := by
  intro y hy
  obtain ⟨i, hi, rfl⟩ := List.mem_map.1 hy; have hi := List.mem_range.1 hi; have hb := (h.good _ (getD_mem hi)).1
  unfold renAt renB
  generalize l.getD i default = x at *
  split
  · show x.row.dims = []; rw [hb]; rfl
  · split
    · show x.row.dims = []; rw [hb]; rfl
    · show x.row.dims = []; rw [hb]; rfl
theorem Raw.set2 {k : Nat} {E : TypeId} {w : World} {g : Nat} {css : List (List Value)} {rest : List Value} (h : Raw k E w g css rest) {i : Nat} {cs : List Value} (hi : css[i]? = some cs) {j j2 : Nat} (hj : j < k) (hj2 : j2 < k) (u u2 : Value) : Raw k E ((w.setCell ⟨g, i * k + j, none⟩ u).setCell ⟨g, i * k + j2, none⟩ u2) g (css.set i ((cs.set j u).set j2 u2)) rest := by
  have hl : i < css.length := by
    rcases Nat.lt_or_ge i css.length with q | q
    · exact q
    · rw [List.getElem?_eq_none q] at hi; cases hi
  have h2 := (h.set hi hj u).set (i := i) (cs := cs.set j u) (List.getElem?_set_self hl) hj2 u2
  rwa [List.set_set] at h2
theorem itoa_nat (n : Nat) (hn : n ≤ 100000) (w : World) (E : Env w) : Calls Tryz.prog 56 #[.int .i64 n] w fun e w' => e = .returned (.string (decS n)) ∧ Below w.heap.size w w' := by
  have h := itoa_any (n : Int) (by omega) (by omega) w E
  have e : Lib.itoa (n : Int) = Lib.decDigits n := by unfold Lib.itoa; rw [if_neg (by omega)]; simp
  rw [e] at h
  exact h
theorem canonical_1 {S : Blk} {x : Lin} {cs : List Value} {w : World} (h : RLin.rd S w cs x) :
    Calls Tryz.prog 60 #[.agg cs.toArray] w fun e w' => e = .returned (.bool (dropL x)) ∧ Below w.heap.size w w' := by
  have HC := Lib.hid (fun (W : World) (hW : Below w.heap.size w W) => linear_Const (RLin.below h hW))
  obtain ⟨t, rfl, a, c, rfl, hs⟩ := h
  have HD : Hid (dropL x = (x.terms.length == 0 && decide (0 ≤ x.const))) := Lib.hid rfl
  clear hs
  have B0 : Hid (Below w.heap.size w (w.alloc (.cells #[.int .i64 x.const, .slice a x.terms.length c] 65))) := Lib.hid ((Below.refl _ _).alloc (by simp <;> omega) _)
  have xa0 : (w.alloc (.cells #[.int .i64 x.const, .slice a x.terms.length c] 65)).cell? ⟨w.heap.size, 0, none⟩ = some (.int .i64 x.const) := by simp [go_sem]
  have xa1 : (w.alloc (.cells #[.int .i64 x.const, .slice a x.terms.length c] 65)).cell? ⟨w.heap.size, 1, none⟩ = some (.slice a x.terms.length c) := by simp [go_sem]
  have hW0 : (w.alloc (.cells #[.int .i64 x.const, .slice a x.terms.length c] 65)).heap.size = w.heap.size + 1 := by simp
  generalize x.terms.length = n at *
  by_cases h0 : n = 0
  · have HC2 : Hid (∀ W, Below w.heap.size w W → Calls Tryz.prog 61 #[.agg #[.int .i64 x.const, .slice a n c]] W fun e w' => e = .returned (.tuple #[.int .i64 x.const, .bool true]) ∧ Below W.heap.size W w') := Lib.hid (fun W hW => by have := HC.out W hW; rwa [if_pos h0, decide_eq_true h0] at this)
    have HD2 : Hid (dropL x = decide (0 ≤ x.const)) := Lib.hid (by rw [HD.out, show (n == 0) = true by simpa using h0]; rfl)
    clear HC h0
    go_enter Tryz.func60, Tryz.ntmps60
    go_wp2_with fail
    refine (HC2.out _ B0.out).mono ?_
    rintro e w1 ⟨rfl, hb⟩
    go_wp2_with fail
    go_ret
    exact ⟨by rw [HD2.out]; rfl, B0.out.trans (hb.mono B0.out.size)⟩
  · have HC2 : Hid (∀ W, Below w.heap.size w W → Calls Tryz.prog 61 #[.agg #[.int .i64 x.const, .slice a n c]] W fun e w' => e = .returned (.tuple #[.int .i64 0, .bool false]) ∧ Below W.heap.size W w') := Lib.hid (fun W hW => by have := HC.out W hW; rwa [if_neg h0, decide_eq_false h0] at this)
    have HD2 : Hid (dropL x = false) := Lib.hid (by rw [HD.out, show (n == 0) = false by simpa using h0]; rfl)
    clear HC h0
    go_enter Tryz.func60, Tryz.ntmps60
    go_wp2_with fail
    refine (HC2.out _ B0.out).mono ?_
    rintro e w1 ⟨rfl, hb⟩
    go_wp2_with fail
    go_ret
    exact ⟨by rw [HD2.out]; rfl, B0.out.trans (hb.mono B0.out.size)⟩
end Go.Proofs.YtjongcdlginjlaaGreatDoor
namespace Go.Proofs.YtjongcdlginjlaaGreatDoor
open Go.RowKit
theorem canErr_ok (s : Sch) : canErr s = 0 ↔ canOk s = true := by
  cases hv : validSch s with
  | false =>
    rw [(can_no hv).1]
    unfold canOk subSchOk
    rw [hv]
    constructor
    · intro h; cases h
    · intro h; cases h
  | true =>
    unfold canOk
    cases ho : subSchOk (ren (varsSch s)) s with
    | false => rw [(can_bad hv ho).1]; constructor <;> (intro h; cases h)
    | true => rw [(can_good hv ho).1]; exact ⟨fun _ => rfl, fun _ => rfl⟩
def fixB (x : Ent) : Bool := (canErr x.scheme == 0) && ((canErr (can x.scheme) == 0) && eqSch (can x.scheme) (can (can x.scheme)))
def fixE (x : Ent) : Ent := if fixB x then ⟨x.name, can x.scheme⟩ else x
theorem fixE_yes {x : Ent} (h : fixB x = true) : fixE x = ⟨x.name, can x.scheme⟩ := by unfold fixE; rw [if_pos h]
theorem fixE_no {x : Ent} (h : fixB x = false) : fixE x = x := by unfold fixE; rw [if_neg (by rw [h]; decide)]
theorem fixE_ok (x : Ent) : (fixE x).name = x.name ∧ goodE (fixE x) = goodE x ∧ can (fixE x).scheme = can x.scheme := by
  cases h : fixB x with
  | false => rw [fixE_no h]; exact ⟨rfl, rfl, rfl⟩
  | true =>
    rw [fixE_yes h]
    unfold fixB at h
    rw [Bool.and_eq_true, Bool.and_eq_true, beq_iff_eq, beq_iff_eq, canErr_ok, canErr_ok, eqSch_iff] at h
    refine ⟨rfl, ?_, h.2.2.symm⟩
    unfold goodE
    rw [h.1]
    show (canOk (can x.scheme) && isNameB x.name) = _
    rw [h.2.1]
theorem order_law {mod : Str} {l : List Ent} {A B C : Ifc} {e f g : Int} (h1 : Says mod l A e) (h2 : Says mod l.reverse B f) (h3 : Says mod (l.reverse.map fixE) C g) (hl : l.length ≤ 60) : (e = f ∧ e = g) ∧ (A = B ∧ A = C) ∧ (e = 0 → validIfc A = true) := by
  have q2 := says_same (f := id) h1 (by rw [List.map_id]; exact h2) (List.reverse_perm l) (fun x _ => ⟨rfl, rfl, rfl⟩)
  have q3 := says_same (f := fixE) h1 h3 (List.reverse_perm l) (fun x _ => fixE_ok x)
  exact ⟨⟨q2.1, q3.1⟩, ⟨q2.2, q3.2⟩, fun he => by subst he; exact says_valid h1 hl⟩
end Go.Proofs.YtjongcdlginjlaaGreatDoor
namespace Go.Proofs.YtjongcdlginjlaaGreatDoor
open Go.RowKit
def canUp (m : List Ent) (k : Nat) : List Ent := (m.take k).map canE ++ m.drop k
theorem canUp_zero (m : List Ent) : canUp m 0 = m := by unfold canUp; simp
theorem canUp_all (m : List Ent) : canUp m m.length = m.map canE := by unfold canUp; simp
theorem canUp_len (m : List Ent) (k : Nat) : (canUp m k).length = m.length := by
  unfold canUp
  rw [List.length_append, List.length_map, List.length_take, List.length_drop]
  omega
theorem canUp_at {m : List Ent} {k : Nat} (hk : k < m.length) : (canUp m k)[k]? = some (m.getD k default) := by
  unfold canUp
  rw [List.getElem?_append_right (by rw [List.length_map, List.length_take]; omega), List.length_map, List.length_take, List.getElem?_drop, show k + (k - min k m.length) = k by omega]
  rw [List.getD_eq_getElem?_getD, List.getElem?_eq_getElem hk]; rfl
theorem canUp_next {m : List Ent} {k : Nat} (hk : k < m.length) : (canUp m k).set k (canE (m.getD k default)) = canUp m (k + 1) := by
  unfold canUp
  rw [List.set_append_right _ _ (by rw [List.length_map, List.length_take]; omega), List.length_map, List.length_take, show k - min k m.length = 0 by omega]
  rw [List.drop_eq_getElem_cons hk, List.set_cons_zero, List.take_succ_eq_append_getElem hk, List.map_append, List.append_assoc]
  rw [List.getD_eq_getElem?_getD, List.getElem?_eq_getElem hk]; rfl
def okK (mod : Str) (m : List Ent) (k : Nat) : Bool := isNameB mod && (m.take k).all goodE
theorem okK_zero (mod : Str) (m : List Ent) : okK mod m 0 = isNameB mod := by unfold okK; simp
theorem okK_next {mod : Str} {m : List Ent} {k : Nat} (hk : k < m.length) : okK mod m (k + 1) = (okK mod m k && goodE (m.getD k default)) := by
  unfold okK
  rw [List.take_succ_eq_append_getElem hk, List.all_append, Bool.and_assoc, List.getD_eq_getElem?_getD, List.getElem?_eq_getElem hk]
  simp
theorem okK_all {mod : Str} {m l : List Ent} (hp : m.Perm l) : okK mod m m.length = mkOk mod l := by
  unfold okK mkOk
  rw [List.take_length]
  congr 1
  rw [Bool.eq_iff_iff, List.all_eq_true, List.all_eq_true]
  exact ⟨fun h x hx => h x (hp.mem_iff.2 hx), fun h x hx => h x (hp.mem_iff.1 hx)⟩
theorem goodE_err (x : Ent) : goodE x = (decide (canErr x.scheme = 0) && isNameB x.name) := by
  unfold goodE
  congr 1
  rw [Bool.eq_iff_iff, decide_eq_true_eq, canErr_ok]
theorem canE_name (m : List Ent) (k : Nat) : ((m.map canE).getD k default).name = (m.getD k default).name := by
  rw [List.getD_eq_getElem?_getD, List.getElem?_map, List.getD_eq_getElem?_getD]
  cases m[k]? with
  | none => rfl
  | some x => rfl
theorem asc_of {m : List Ent} (hle : Le cmpE m) (h : ∀ j, 0 < j → j < m.length → (m.getD (j - 1) default).name ≠ (m.getD j default).name) : Asc m := by
  have one : ∀ j (h1 : j < m.length) (h0 : 0 < j), slt (m[j - 1]'(by omega)).name (m[j]'h1).name = true := fun j h1 h0 => by
    have q := h j h0 h1
    rw [List.getD_eq_getElem?_getD, List.getElem?_eq_getElem (show j - 1 < m.length by omega), List.getD_eq_getElem?_getD, List.getElem?_eq_getElem h1] at q
    have p : cmpE (m[j - 1]'(by omega)) (m[j]'h1) ≤ 0 := List.pairwise_iff_getElem.1 hle (j - 1) j (by omega) h1 (by omega)
    unfold cmpE at p
    rw [cmpS_le] at p
    cases e : slt (m[j - 1]'(by omega)).name (m[j]'h1).name with
    | true => rfl
    | false => exact absurd (slt_total e p) q
  refine List.pairwise_iff_getElem.2 fun i j hi hj hij => ?_
  have key : ∀ d i (hi : i < m.length) (hd : i + d + 1 < m.length), slt m[i].name m[i + d + 1].name = true := fun d => by
    induction d with
    | zero => intro i hi hd; exact one (i + 1) hd (by omega)
    | succ d ih => intro i hi hd; exact slt_trans (ih i hi (by omega)) (one (i + d + 1 + 1) hd (by omega))
  have := key (j - i - 1) i hi (by omega)
  have e : i + (j - i - 1) + 1 = j := by omega
  simpa [e] using this
theorem asc_uni {m : List Ent} (h : Asc m) : Uni m := h.imp fun {a b} hab e => by rw [e, slt_irrefl] at hab; cases hab
theorem not_uni {m : List Ent} {j : Nat} (h0 : 0 < j) (hj : j < m.length) (h : (m.getD (j - 1) default).name = (m.getD j default).name) : ¬Uni m := fun u => by
  rw [List.getD_eq_getElem?_getD, List.getElem?_eq_getElem (show j - 1 < m.length by omega), List.getD_eq_getElem?_getD, List.getElem?_eq_getElem hj] at h
  exact List.pairwise_iff_getElem.1 u (j - 1) j (by omega) hj (by omega) h
theorem says_bad {mod : Str} {m l : List Ent} (hp : m.Perm l) (h : okK mod m m.length = false) : Says mod l noIfc 1 := .inl ⟨by rw [← okK_all hp]; exact h, rfl, rfl⟩
theorem says_twice {mod : Str} {m l : List Ent} (hp : m.Perm l) (h : okK mod m m.length = true) {j : Nat} (h0 : 0 < j) (hj : j < m.length) (he : (m.getD (j - 1) default).name = (m.getD j default).name) : Says mod l noIfc 8 :=
  .inr (.inl ⟨by rw [← okK_all hp]; exact h, fun u => not_uni h0 hj he (u.perm hp.symm), rfl, rfl⟩)
theorem says_done {mod : Str} {m l : List Ent} (hp : m.Perm l) (h : okK mod m m.length = true) (hle : Le cmpE m) (hne : ∀ j, 0 < j → j < m.length → (m.getD (j - 1) default).name ≠ (m.getD j default).name) : Says mod l ⟨mod, m.map canE⟩ 0 :=
  have ha := asc_of hle hne
  .inr (.inr ⟨by rw [← okK_all hp]; exact h, (asc_uni ha).perm hp, rfl, m, hp, ha, rfl⟩)
end Go.Proofs.YtjongcdlginjlaaGreatDoor
namespace Go.Proofs.YtjongcdlginjlaaGreatDoor
open Go.RowKit
set_option maxHeartbeats 8000000 in
theorem types_Canonical {S : Blk} {s : Sch} {cs : List Value} {w : World} (h : RSch.rd S w cs s) (hz : szS s) (hwl : validSch s = true → s.wh.length ≤ 12) (E : Env w) :
    Calls Tryz.prog 28 #[.agg cs.toArray] w fun e w' => (∃ ds, e = .returned (.tuple #[.agg ds.toArray, .int .i64 (canErr s)]) ∧ RSch.rd (fun q => w.heap.size ≤ q) w' ds (can s)) ∧ Below w.heap.size w w' := by
  have HV : Hid (∀ W, Below w.heap.size w W → Calls Tryz.prog 36 #[.agg cs.toArray] W fun e w' => e = .returned (.bool (validSch s)) ∧ Below W.heap.size W w') :=
    Lib.hid (fun W hW => types_ValidScheme (RSch.below h hW) hz (E.below hW))
  have HE := Lib.hid (fun (W : World) (hW : Below w.heap.size w W) => E.below hW)
  have HSc := Lib.hid (fun (W : World) (hW : Below w.heap.size w W) => RSch.below h hW)
  cases hv : validSch s with
  | false =>
    rw [hv] at HV; have HBd := Lib.hid (can_no hv); obtain ⟨p, t, q, rfl, ⟨ap, cp, rfl, _⟩, ⟨at_, ct, rfl, _⟩, ⟨aq, cq, rfl, _⟩⟩ := h; clear hv
    have B0 : Hid (Below w.heap.size w ((w.alloc (.cells #[.slice ap s.params.length cp, .string s.result.elem, .string s.result.shape.row, .slice at_ s.result.shape.dims.length ct, .slice aq s.wh.length cq] 41)).alloc (.cells #[.slice none 0 0, .string ⟨#[]⟩, .string ⟨#[]⟩, .slice none 0 0, .slice none 0 0] 41))) := Lib.hid (((Below.refl _ _).alloc (by simp <;> omega) _).alloc (by simp <;> omega) _)
    have bka : Bx ((w.alloc (.cells #[.slice ap s.params.length cp, .string s.result.elem, .string s.result.shape.row, .slice at_ s.result.shape.dims.length ct, .slice aq s.wh.length cq] 41)).alloc (.cells #[.slice none 0 0, .string ⟨#[]⟩, .string ⟨#[]⟩, .slice none 0 0, .slice none 0 0] 41)) (w.heap.size) 41 [.slice ap s.params.length cp, .string s.result.elem, .string s.result.shape.row, .slice at_ s.result.shape.dims.length ct, .slice aq s.wh.length cq] := by have h := ((Bx.fresh w 41 [.slice ap s.params.length cp, .string s.result.elem, .string s.result.shape.row, .slice at_ s.result.shape.dims.length ct, .slice aq s.wh.length cq]).alloc (.cells #[.slice none 0 0, .string ⟨#[]⟩, .string ⟨#[]⟩, .slice none 0 0, .slice none 0 0] 41)); simpa using h
    have xa0 : ((w.alloc (.cells #[.slice ap s.params.length cp, .string s.result.elem, .string s.result.shape.row, .slice at_ s.result.shape.dims.length ct, .slice aq s.wh.length cq] 41)).alloc (.cells #[.slice none 0 0, .string ⟨#[]⟩, .string ⟨#[]⟩, .slice none 0 0, .slice none 0 0] 41)).cell? ⟨w.heap.size, 0, none⟩ = some (.slice ap s.params.length cp) := bka.cell 0 _ rfl
    have xa1 : ((w.alloc (.cells #[.slice ap s.params.length cp, .string s.result.elem, .string s.result.shape.row, .slice at_ s.result.shape.dims.length ct, .slice aq s.wh.length cq] 41)).alloc (.cells #[.slice none 0 0, .string ⟨#[]⟩, .string ⟨#[]⟩, .slice none 0 0, .slice none 0 0] 41)).cell? ⟨w.heap.size, 1, none⟩ = some (.string s.result.elem) := bka.cell 1 _ rfl
    have xa2 : ((w.alloc (.cells #[.slice ap s.params.length cp, .string s.result.elem, .string s.result.shape.row, .slice at_ s.result.shape.dims.length ct, .slice aq s.wh.length cq] 41)).alloc (.cells #[.slice none 0 0, .string ⟨#[]⟩, .string ⟨#[]⟩, .slice none 0 0, .slice none 0 0] 41)).cell? ⟨w.heap.size, 2, none⟩ = some (.string s.result.shape.row) := bka.cell 2 _ rfl
    have xa3 : ((w.alloc (.cells #[.slice ap s.params.length cp, .string s.result.elem, .string s.result.shape.row, .slice at_ s.result.shape.dims.length ct, .slice aq s.wh.length cq] 41)).alloc (.cells #[.slice none 0 0, .string ⟨#[]⟩, .string ⟨#[]⟩, .slice none 0 0, .slice none 0 0] 41)).cell? ⟨w.heap.size, 3, none⟩ = some (.slice at_ s.result.shape.dims.length ct) := bka.cell 3 _ rfl
    have xa4 : ((w.alloc (.cells #[.slice ap s.params.length cp, .string s.result.elem, .string s.result.shape.row, .slice at_ s.result.shape.dims.length ct, .slice aq s.wh.length cq] 41)).alloc (.cells #[.slice none 0 0, .string ⟨#[]⟩, .string ⟨#[]⟩, .slice none 0 0, .slice none 0 0] 41)).cell? ⟨w.heap.size, 4, none⟩ = some (.slice aq s.wh.length cq) := bka.cell 4 _ rfl
    have bkb : Bx ((w.alloc (.cells #[.slice ap s.params.length cp, .string s.result.elem, .string s.result.shape.row, .slice at_ s.result.shape.dims.length ct, .slice aq s.wh.length cq] 41)).alloc (.cells #[.slice none 0 0, .string ⟨#[]⟩, .string ⟨#[]⟩, .slice none 0 0, .slice none 0 0] 41)) (w.heap.size + 1) 41 [.slice none 0 0, .string ⟨#[]⟩, .string ⟨#[]⟩, .slice none 0 0, .slice none 0 0] := by have h := (Bx.fresh (w.alloc (.cells #[.slice ap s.params.length cp, .string s.result.elem, .string s.result.shape.row, .slice at_ s.result.shape.dims.length ct, .slice aq s.wh.length cq] 41)) 41 [.slice none 0 0, .string ⟨#[]⟩, .string ⟨#[]⟩, .slice none 0 0, .slice none 0 0]); simpa using h
    have xb0 : ((w.alloc (.cells #[.slice ap s.params.length cp, .string s.result.elem, .string s.result.shape.row, .slice at_ s.result.shape.dims.length ct, .slice aq s.wh.length cq] 41)).alloc (.cells #[.slice none 0 0, .string ⟨#[]⟩, .string ⟨#[]⟩, .slice none 0 0, .slice none 0 0] 41)).cell? ⟨w.heap.size + 1, 0, none⟩ = some (.slice none 0 0) := bkb.cell 0 _ rfl
    have xb1 : ((w.alloc (.cells #[.slice ap s.params.length cp, .string s.result.elem, .string s.result.shape.row, .slice at_ s.result.shape.dims.length ct, .slice aq s.wh.length cq] 41)).alloc (.cells #[.slice none 0 0, .string ⟨#[]⟩, .string ⟨#[]⟩, .slice none 0 0, .slice none 0 0] 41)).cell? ⟨w.heap.size + 1, 1, none⟩ = some (.string ⟨#[]⟩) := bkb.cell 1 _ rfl
    have xb2 : ((w.alloc (.cells #[.slice ap s.params.length cp, .string s.result.elem, .string s.result.shape.row, .slice at_ s.result.shape.dims.length ct, .slice aq s.wh.length cq] 41)).alloc (.cells #[.slice none 0 0, .string ⟨#[]⟩, .string ⟨#[]⟩, .slice none 0 0, .slice none 0 0] 41)).cell? ⟨w.heap.size + 1, 2, none⟩ = some (.string ⟨#[]⟩) := bkb.cell 2 _ rfl
    have xb3 : ((w.alloc (.cells #[.slice ap s.params.length cp, .string s.result.elem, .string s.result.shape.row, .slice at_ s.result.shape.dims.length ct, .slice aq s.wh.length cq] 41)).alloc (.cells #[.slice none 0 0, .string ⟨#[]⟩, .string ⟨#[]⟩, .slice none 0 0, .slice none 0 0] 41)).cell? ⟨w.heap.size + 1, 3, none⟩ = some (.slice none 0 0) := bkb.cell 3 _ rfl
    have xb4 : ((w.alloc (.cells #[.slice ap s.params.length cp, .string s.result.elem, .string s.result.shape.row, .slice at_ s.result.shape.dims.length ct, .slice aq s.wh.length cq] 41)).alloc (.cells #[.slice none 0 0, .string ⟨#[]⟩, .string ⟨#[]⟩, .slice none 0 0, .slice none 0 0] 41)).cell? ⟨w.heap.size + 1, 4, none⟩ = some (.slice none 0 0) := bkb.cell 4 _ rfl
    have hW0 : ((w.alloc (.cells #[.slice ap s.params.length cp, .string s.result.elem, .string s.result.shape.row, .slice at_ s.result.shape.dims.length ct, .slice aq s.wh.length cq] 41)).alloc (.cells #[.slice none 0 0, .string ⟨#[]⟩, .string ⟨#[]⟩, .slice none 0 0, .slice none 0 0] 41)).heap.size = w.heap.size + 2 := by simp
    have HR0 := Lib.hid bkb; clear bka bkb
    go_enter Tryz.func28, Tryz.ntmps28
    go_wp2_with fail
    refine (HV.out _ B0.out).mono ?_
    rintro e w1 ⟨rfl, hb1⟩
    have HRw := Lib.hid (HR0.out.below hb1 HR0.out.lt)
    have HWw : Hid (Below w.heap.size w w1) := Lib.hid (B0.out.trans (hb1.mono B0.out.size))
    clear xa0 xa1 xa2 xa3 xa4 xb0 xb1 xb2 xb3 xb4 hb1 HR0 B0 HV; have v0 := HRw.out.cell 0 _ rfl; have v1 := HRw.out.cell 1 _ rfl; have v2 := HRw.out.cell 2 _ rfl; have v3 := HRw.out.cell 3 _ rfl; have v4 := HRw.out.cell 4 _ rfl; have u0 := HRw.out.fz 0; have u1 := HRw.out.fz 1; have u2 := HRw.out.fz 2; have u3 := HRw.out.fz 3; have u4 := HRw.out.fz 4; have hlr := HRw.out.lt; have HX60 := Lib.hid (((((HRw.out.set 0 (.slice none 0 0)).set 1 (.string ⟨#[]⟩)).set 2 (.string ⟨#[]⟩)).set 3 (.slice none 0 0)).set 4 (.slice none 0 0)); have s0 := HX60.out.cell 0 _ rfl; have s1 := HX60.out.cell 1 _ rfl; have s2 := HX60.out.cell 2 _ rfl; have s3 := HX60.out.cell 3 _ rfl; have s4 := HX60.out.cell 4 _ rfl
    go_wp2_with fail
    refine bodyPost_ret (v := .tuple #[.agg #[.slice none 0 0, .string ⟨#[]⟩, .string ⟨#[]⟩, .slice none 0 0, .slice none 0 0], .int .i64 1]) (by simp [results, Tryz.results28, go_sem, s0, s1, s2, s3, s4, hlr]) rfl ?_
    refine ⟨⟨[.slice none 0 0, .string ⟨#[]⟩, .string ⟨#[]⟩, .slice none 0 0, .slice none 0 0], by rw [HBd.out.1], by rw [HBd.out.2]; exact (OwnSch.no _ _).rd⟩, ?_⟩
    repeat (first | exact HWw.out | refine Below.setCell ?_ (by show _ ≤ w.heap.size + 1; omega) _)
  | true =>
    rw [hv] at HV
    have HCV : Hid (∀ W, Below w.heap.size w W → Calls Tryz.prog 55 #[.agg cs.toArray] W fun e w' => (∃ v, e = .returned v ∧ Own RBnd 103 (fun _ => False) w' W.heap.size v (varsSch s)) ∧ Below W.heap.size W w') :=
      Lib.hid (fun W hW => types_Vars (HSc.out W hW) hv (HE.out W hW))
    have HInv := Lib.hid (varsSch_inv hv); have HLen := Lib.hid (varsSch_len (s := s))
    have HCS := Lib.hid (fun (W : World) (hW : Below w.heap.size w W) (T : Blk) (a : Option Addr) (nb cb : Nat) (hbs : Sl RBnd T W a nb cb (ren (varsSch s))) => types_SubstScheme (HSc.out W hW) hv (ren (varsSch s)) a nb cb hbs (canon_binds hv) (ren_plain (varsSch_inv hv)) (HE.out W hW))
    have HBad := Lib.hid (fun q => can_bad hv q)
    have HGood := Lib.hid (fun q => can_good hv q)
    have HWL : Hid (s.wh.length ≤ 12) := Lib.hid (hwl hv)
    obtain ⟨p, t, q, rfl, ⟨ap, cp, rfl, _⟩, ⟨at_, ct, rfl, _⟩, ⟨aq, cq, rfl, _⟩⟩ := h; clear hv hwl HSc E
    generalize varsSch s = L at *
    have B0 : Hid (Below w.heap.size w ((w.alloc (.cells #[.slice ap s.params.length cp, .string s.result.elem, .string s.result.shape.row, .slice at_ s.result.shape.dims.length ct, .slice aq s.wh.length cq] 41)).alloc (.cells #[.slice none 0 0, .string ⟨#[]⟩, .string ⟨#[]⟩, .slice none 0 0, .slice none 0 0] 41))) := Lib.hid (((Below.refl _ _).alloc (by simp <;> omega) _).alloc (by simp <;> omega) _)
    have bka : Bx ((w.alloc (.cells #[.slice ap s.params.length cp, .string s.result.elem, .string s.result.shape.row, .slice at_ s.result.shape.dims.length ct, .slice aq s.wh.length cq] 41)).alloc (.cells #[.slice none 0 0, .string ⟨#[]⟩, .string ⟨#[]⟩, .slice none 0 0, .slice none 0 0] 41)) (w.heap.size) 41 [.slice ap s.params.length cp, .string s.result.elem, .string s.result.shape.row, .slice at_ s.result.shape.dims.length ct, .slice aq s.wh.length cq] := by have h := ((Bx.fresh w 41 [.slice ap s.params.length cp, .string s.result.elem, .string s.result.shape.row, .slice at_ s.result.shape.dims.length ct, .slice aq s.wh.length cq]).alloc (.cells #[.slice none 0 0, .string ⟨#[]⟩, .string ⟨#[]⟩, .slice none 0 0, .slice none 0 0] 41)); simpa using h
    have xa0 : ((w.alloc (.cells #[.slice ap s.params.length cp, .string s.result.elem, .string s.result.shape.row, .slice at_ s.result.shape.dims.length ct, .slice aq s.wh.length cq] 41)).alloc (.cells #[.slice none 0 0, .string ⟨#[]⟩, .string ⟨#[]⟩, .slice none 0 0, .slice none 0 0] 41)).cell? ⟨w.heap.size, 0, none⟩ = some (.slice ap s.params.length cp) := bka.cell 0 _ rfl
    have xa1 : ((w.alloc (.cells #[.slice ap s.params.length cp, .string s.result.elem, .string s.result.shape.row, .slice at_ s.result.shape.dims.length ct, .slice aq s.wh.length cq] 41)).alloc (.cells #[.slice none 0 0, .string ⟨#[]⟩, .string ⟨#[]⟩, .slice none 0 0, .slice none 0 0] 41)).cell? ⟨w.heap.size, 1, none⟩ = some (.string s.result.elem) := bka.cell 1 _ rfl
    have xa2 : ((w.alloc (.cells #[.slice ap s.params.length cp, .string s.result.elem, .string s.result.shape.row, .slice at_ s.result.shape.dims.length ct, .slice aq s.wh.length cq] 41)).alloc (.cells #[.slice none 0 0, .string ⟨#[]⟩, .string ⟨#[]⟩, .slice none 0 0, .slice none 0 0] 41)).cell? ⟨w.heap.size, 2, none⟩ = some (.string s.result.shape.row) := bka.cell 2 _ rfl
    have xa3 : ((w.alloc (.cells #[.slice ap s.params.length cp, .string s.result.elem, .string s.result.shape.row, .slice at_ s.result.shape.dims.length ct, .slice aq s.wh.length cq] 41)).alloc (.cells #[.slice none 0 0, .string ⟨#[]⟩, .string ⟨#[]⟩, .slice none 0 0, .slice none 0 0] 41)).cell? ⟨w.heap.size, 3, none⟩ = some (.slice at_ s.result.shape.dims.length ct) := bka.cell 3 _ rfl
    have xa4 : ((w.alloc (.cells #[.slice ap s.params.length cp, .string s.result.elem, .string s.result.shape.row, .slice at_ s.result.shape.dims.length ct, .slice aq s.wh.length cq] 41)).alloc (.cells #[.slice none 0 0, .string ⟨#[]⟩, .string ⟨#[]⟩, .slice none 0 0, .slice none 0 0] 41)).cell? ⟨w.heap.size, 4, none⟩ = some (.slice aq s.wh.length cq) := bka.cell 4 _ rfl
    have bkb : Bx ((w.alloc (.cells #[.slice ap s.params.length cp, .string s.result.elem, .string s.result.shape.row, .slice at_ s.result.shape.dims.length ct, .slice aq s.wh.length cq] 41)).alloc (.cells #[.slice none 0 0, .string ⟨#[]⟩, .string ⟨#[]⟩, .slice none 0 0, .slice none 0 0] 41)) (w.heap.size + 1) 41 [.slice none 0 0, .string ⟨#[]⟩, .string ⟨#[]⟩, .slice none 0 0, .slice none 0 0] := by have h := (Bx.fresh (w.alloc (.cells #[.slice ap s.params.length cp, .string s.result.elem, .string s.result.shape.row, .slice at_ s.result.shape.dims.length ct, .slice aq s.wh.length cq] 41)) 41 [.slice none 0 0, .string ⟨#[]⟩, .string ⟨#[]⟩, .slice none 0 0, .slice none 0 0]); simpa using h
    have xb0 : ((w.alloc (.cells #[.slice ap s.params.length cp, .string s.result.elem, .string s.result.shape.row, .slice at_ s.result.shape.dims.length ct, .slice aq s.wh.length cq] 41)).alloc (.cells #[.slice none 0 0, .string ⟨#[]⟩, .string ⟨#[]⟩, .slice none 0 0, .slice none 0 0] 41)).cell? ⟨w.heap.size + 1, 0, none⟩ = some (.slice none 0 0) := bkb.cell 0 _ rfl
    have xb1 : ((w.alloc (.cells #[.slice ap s.params.length cp, .string s.result.elem, .string s.result.shape.row, .slice at_ s.result.shape.dims.length ct, .slice aq s.wh.length cq] 41)).alloc (.cells #[.slice none 0 0, .string ⟨#[]⟩, .string ⟨#[]⟩, .slice none 0 0, .slice none 0 0] 41)).cell? ⟨w.heap.size + 1, 1, none⟩ = some (.string ⟨#[]⟩) := bkb.cell 1 _ rfl
    have xb2 : ((w.alloc (.cells #[.slice ap s.params.length cp, .string s.result.elem, .string s.result.shape.row, .slice at_ s.result.shape.dims.length ct, .slice aq s.wh.length cq] 41)).alloc (.cells #[.slice none 0 0, .string ⟨#[]⟩, .string ⟨#[]⟩, .slice none 0 0, .slice none 0 0] 41)).cell? ⟨w.heap.size + 1, 2, none⟩ = some (.string ⟨#[]⟩) := bkb.cell 2 _ rfl
    have xb3 : ((w.alloc (.cells #[.slice ap s.params.length cp, .string s.result.elem, .string s.result.shape.row, .slice at_ s.result.shape.dims.length ct, .slice aq s.wh.length cq] 41)).alloc (.cells #[.slice none 0 0, .string ⟨#[]⟩, .string ⟨#[]⟩, .slice none 0 0, .slice none 0 0] 41)).cell? ⟨w.heap.size + 1, 3, none⟩ = some (.slice none 0 0) := bkb.cell 3 _ rfl
    have xb4 : ((w.alloc (.cells #[.slice ap s.params.length cp, .string s.result.elem, .string s.result.shape.row, .slice at_ s.result.shape.dims.length ct, .slice aq s.wh.length cq] 41)).alloc (.cells #[.slice none 0 0, .string ⟨#[]⟩, .string ⟨#[]⟩, .slice none 0 0, .slice none 0 0] 41)).cell? ⟨w.heap.size + 1, 4, none⟩ = some (.slice none 0 0) := bkb.cell 4 _ rfl
    have hW0 : ((w.alloc (.cells #[.slice ap s.params.length cp, .string s.result.elem, .string s.result.shape.row, .slice at_ s.result.shape.dims.length ct, .slice aq s.wh.length cq] 41)).alloc (.cells #[.slice none 0 0, .string ⟨#[]⟩, .string ⟨#[]⟩, .slice none 0 0, .slice none 0 0] 41)).heap.size = w.heap.size + 2 := by simp
    have HA0 := Lib.hid bka; have HR0 := Lib.hid bkb; clear bka bkb
    go_enter Tryz.func28, Tryz.ntmps28
    go_wp2_with fail
    refine (HV.out _ B0.out).mono ?_
    rintro e w1 ⟨rfl, hb1⟩
    have HA1 := Lib.hid (HA0.out.below hb1 HA0.out.lt); have HR1 := Lib.hid (HR0.out.below hb1 HR0.out.lt)
    have HW1 : Hid (Below w.heap.size w w1) := Lib.hid (B0.out.trans (hb1.mono B0.out.size))
    have hz1 : w.heap.size + 2 ≤ w1.heap.size := by have := hb1.size; simpa using this
    clear xa0 xa1 xa2 xa3 xa4 xb0 xb1 xb2 xb3 xb4 hb1 HR0 HA0 B0 HV hW0; have y0 := HA1.out.cell 0 _ rfl; have y1 := HA1.out.cell 1 _ rfl; have y2 := HA1.out.cell 2 _ rfl; have y3 := HA1.out.cell 3 _ rfl; have y4 := HA1.out.cell 4 _ rfl; have hl1 := HA1.out.lt
    have HBa : Hid (Below w1.heap.size w1 (w1.alloc (.cells #[.int .i64 0, .int .i64 0, .int .i64 0, .int .i64 0] 100))) := Lib.hid ((Below.refl _ _).alloc (Nat.le_refl _) _)
    go_wp2_with fail
    refine (HCV.out _ (HW1.out.trans (HBa.out.mono HW1.out.size))).mono ?_
    rintro e w2 ⟨⟨v, rfl, hown⟩, hb2⟩
    obtain ⟨a5, c5, rfl, _⟩ := hown.sl; have HB2 := Lib.hid (HBa.out.trans (hb2.mono HBa.out.size))
    have HG2 : Hid (Bx w2 w1.heap.size 100 (cntV L 0)) := Lib.hid (by rw [cntV_zero]; exact (Bx.fresh w1 100 [.int .i64 0, .int .i64 0, .int .i64 0, .int .i64 0]).below hb2 (by simp))
    have HA2 := Lib.hid (HA1.out.below HB2.out HA1.out.lt); have HR2 := Lib.hid (HR1.out.below HB2.out HR1.out.lt); have HW2 := Lib.hid (HW1.out.trans (HB2.out.mono HW1.out.size))
    have hz2 : w1.heap.size + 1 ≤ w2.heap.size := by have := hb2.size; simpa using this
    have HO2 : Hid (Own RBnd 103 (fun q => w2.heap.size ≤ q) w2 (w1.heap.size + 1) (.slice a5 L.length c5) (renUp L 0)) := Lib.hid (by have := hown.mono (S' := fun q => w2.heap.size ≤ q) (fun k hk _ => hk.elim); simpa [renUp_zero] using this)
    have HSm : L.length ≤ 3000 := HLen.out
    clear hown hb2 y0 y1 y2 y3 y4 HCV HA1 HR1 hl1 HBa
    generalize hn : L.length = n at *
    have HN := Lib.hid hn; clear hn
    go_wp2_with fail
    go_loopw [19] (fun iv wr => ∃ k : Nat, k ≤ n ∧ iv = .int .i64 k ∧ Hid (Own RBnd 103 (fun q => w2.heap.size ≤ q) wr (w1.heap.size + 1) (.slice a5 n c5) (renUp L k)) ∧ Hid (Bx wr w1.heap.size 100 (cntV L k)) ∧ Hid (∀ q, q < w2.heap.size → q ≠ w1.heap.size → (Value.slice a5 n c5).ownBlock ≠ some q → wr.heap[q]? = w2.heap[q]?) ∧ Below w.heap.size w wr ∧ w2.heap.size ≤ wr.heap.size) (fun iv _ => n - (intOf iv).toNat)
    case atStart => exact ⟨0, Nat.zero_le _, rfl, HO2, HG2, Lib.hid (fun _ _ _ _ => rfl), HW2.out, Nat.le_refl _⟩
    case round =>
      obtain ⟨k, hk, rfl, HO, HG, HK, hB, hsz⟩ := hrel
      by_cases hlt : k < n
      · have hkl : k < L.length := by rw [HN.out]; exact hlt
        obtain ⟨gb, c', css, rest, hv, hgb, hR, hL, hlc, hcm, hsl⟩ := HO.out.raw (by rw [renUp_len (by omega)]; omega)
        rw [Value.slice.injEq] at hv; obtain ⟨rfl, -, rfl⟩ := hv
        rw [renUp_len (by omega), HN.out] at hlc
        obtain ⟨cs, hi, hr⟩ := hL.2 k _ (renUp_at hkl); have HGood2 := Lib.hid (HInv.out.good _ (getD_mem hkl)); have HRen := Lib.hid (renAt1 hkl HGood2.out.1); have HNext := Lib.hid (renUp_next hkl)
        have hL3 : L.length ≤ 3000 := by rw [HN.out]; exact HSm
        have hc1 := cnt_bd hL3 1 k; have hc2 := cnt_bd hL3 2 k; have hc3 := cnt_bd hL3 3 k
        have HCV0 : Hid (cntV L k = [.int .i64 0, .int .i64 (cntK 1 (L.take k)), .int .i64 (cntK 2 (L.take k)), .int .i64 (cntK 3 (L.take k))]) := Lib.hid rfl
        obtain ⟨kd, nv, hx⟩ : ∃ kd nv, L.getD k default = ⟨kd, nv, ⟨0, []⟩, ⟨⟨#[]⟩, []⟩, ⟨#[]⟩⟩ := ⟨_, _, HGood2.out.1⟩; rw [hx] at HRen HGood2 hr; obtain ⟨t, d, rfl, ⟨ta, tc, rfl, hta⟩, ⟨da, dc, rfl, hda⟩⟩ := hr
        have hi : css[k]? = some [.int .i64 kd, .string nv, .int .i64 0, .slice ta 0 tc, .string ⟨#[]⟩, .slice da 0 dc, .string ⟨#[]⟩] := hi
        have HI := Lib.hid hi
        have HTa : Hid (tc ≤ maxLen ∧ (ta = none → tc = 0)) := Lib.hid ⟨hta.max, hta.nil⟩
        have HDa : Hid (dc ≤ maxLen ∧ (da = none → dc = 0)) := Lib.hid ⟨hda.max, hda.nil⟩
        have hok := HGood2.out.2
        have HR : Hid (Raw 7 103 wr gb css rest) := Lib.hid hR
        have HL := Lib.hid hL
        have HSl : Hid (css.length * 7 + rest.length = c5 * 7) := Lib.hid hsl
        have hgl := hR.lt
        have hgne : w1.heap.size ≠ gb := by omega
        obtain ⟨y, hy⟩ : ∃ y, renAt L k = y := ⟨_, rfl⟩; have HYe := Lib.hid hy; rw [hy] at HNext; obtain ⟨n1, hn1⟩ : ∃ q, cntK 1 (L.take k) = q := ⟨_, rfl⟩; obtain ⟨n2, hn2⟩ : ∃ q, cntK 2 (L.take k) = q := ⟨_, rfl⟩; obtain ⟨n3, hn3'⟩ : ∃ q, cntK 3 (L.take k) = q := ⟨_, rfl⟩
        have HCe : Hid (cntK 1 (L.take k) = n1 ∧ cntK 2 (L.take k) = n2 ∧ cntK 3 (L.take k) = n3) := Lib.hid ⟨hn1, hn2, hn3'⟩
        rw [hn1] at hc1; rw [hn2] at hc2; rw [hn3'] at hc3; rw [hn1, hn2, hn3'] at HCV0; have HGq := Lib.hid (HCV0.out ▸ HG.out)
        have HOl : Hid (∀ q, q < w2.heap.size → (Value.slice (some ⟨gb, 0, none⟩) n c5).ownBlock ≠ some q → q ≠ gb) := Lib.hid (fun q _ h e => h (by rw [e]; rfl))
        clear hn1 hn2 hn3' hx hkl hta hda hR hL hsl hi hL3 HGood2 hy HO HG
        rcases hok with ⟨hok, hnm⟩ | ⟨hok, hnm⟩ | ⟨hok, hnm⟩
        · skip
          have hkd : kd = 1 := hok
          subst hkd; have HR1' := Lib.hid (HRen.out.at1 rfl); rw [HCe.out.1] at HR1'; clear HRen; have e0 := HR.out.cell HI.out 0 _ rfl; rw [Nat.add_zero] at e0; have g1 := HGq.out.cell 1 _ rfl; have v1 := HGq.out.fz 1; have HGb := Lib.hid (HGq.out.set 1 (.int .i64 ((n1 : Int) + 1)))
          have HRb : Hid (Raw 7 103 (wr.setCell ⟨w1.heap.size, 1, none⟩ (.int .i64 ((n1 : Int) + 1))) gb css rest) := Lib.hid (HR.out.other (by show w1.heap.size ≠ gb; exact hgne))
          have HKb : Hid (∀ q, q < wr.heap.size → q ≠ w1.heap.size → (wr.setCell ⟨w1.heap.size, 1, none⟩ (.int .i64 ((n1 : Int) + 1))).heap[q]? = wr.heap[q]?) := Lib.hid (fun q hq hne => heap_set_ne (fun e => hne e.symm))
          have HBb : Hid (Below w.heap.size w (wr.setCell ⟨w1.heap.size, 1, none⟩ (.int .i64 ((n1 : Int) + 1)))) := Lib.hid (hB.setCell (by show w.heap.size ≤ w1.heap.size; omega) _)
          have HZb : Hid ((wr.setCell ⟨w1.heap.size, 1, none⟩ (.int .i64 ((n1 : Int) + 1))).heap.size = wr.heap.size) := Lib.hid (by simp)
          go_wp2_with fail
          have f0 := HRb.out.cell HI.out 0 _ rfl; have h1 := HGb.out.cell 1 _ rfl; rw [Nat.add_zero] at f0; clear e0 g1 v1
          generalize (wr.setCell ⟨w1.heap.size, 1, none⟩ (.int .i64 ((n1 : Int) + 1))) = wb at *
          have HIt : Hid (∀ t : Later wb, Calls Tryz.prog 56 #[.int .i64 ((n1 : Int) + 1)] t.w fun e w' => e = .returned (.string (decS (n1 + 1))) ∧ Below t.w.heap.size t.w w') := Lib.hid (fun t => by
            have h := itoa_nat (n1 + 1) (by omega) t.w ((HE.out wb HBb.out).at_ t)
            rwa [Int.natCast_add, Int.natCast_one] at h)
          have hds : (decS (n1 + 1)).size ≤ 6 := by
            show (Lib.decDigits (n1 + 1)).length ≤ 6
            exact dec_len 5 _ (by omega)
          have HNm : Hid (∀ c : UInt8, (⟨#[c]⟩ : Str) ++ decS (n1 + 1) = nm c (n1 + 1)) := Lib.hid (fun c => rfl)
          generalize decS (n1 + 1) = dd at *
          have F0 := Later.cell f0; have H1 := Later.cell h1; clear f0 h1
          have hix : ∀ W : World, (Instr.index 104 (.agg #[.string ⟨#[]⟩, .string ⟨#[110]⟩, .string ⟨#[114]⟩, .string ⟨#[65]⟩]) (.int .i64 1)).run Tryz.prog W = .ok (.string ⟨#[110]⟩) W := fun W => by kernel_rfl
          refine wp_region_later (by kernel_rfl) (by kernel_rfl) ?_
          repeat (go_big_quiet_step (first | fail | exact Later.call (HIt.out _)))
          refine wpQuiet_nil ?_
          rintro _ ⟨t9, rfl⟩
          have HBq : Hid (Below wb.heap.size wb t9.w) := Lib.hid t9.b
          generalize t9.w = wq at *
          clear F0 H1 HIt
          have hzb : wb.heap.size = wr.heap.size := HZb.out
          have hzq := HBq.out.size; rw [hzb] at hzq; have HRq := Lib.hid (HRb.out.below HBq.out HRb.out.lt); have HGq2 := Lib.hid (HGb.out.below HBq.out HGb.out.lt)
          have HKq : Hid (∀ q, q < wr.heap.size → q ≠ w1.heap.size → wq.heap[q]? = wr.heap[q]?) := Lib.hid (fun q hq hne => (HBq.out.block q (by rw [HZb.out]; exact hq)).trans (HKb.out q hq hne))
          have HBw : Hid (Below w.heap.size w wq) := Lib.hid (HBb.out.trans (HBq.out.mono HBb.out.size))
          have p0 := HRq.out.cell HI.out 0 _ rfl; rw [Nat.add_zero] at p0; clear hzb HRb HGb HKb HBb HBq HZb HR HGq
          go_wp2_with fail
          refine (linear_Var ((⟨#[110]⟩ : Str) ++ dd) wq).mono ?_
          rintro e w5 ⟨⟨_, rfl, hr5⟩, hb5⟩
          obtain ⟨_, rfl, a9, c9, rfl, hs9⟩ := hr5; have HS9 := Lib.hid hs9; have HR5 := Lib.hid (HRq.out.below hb5 HRq.out.lt); have c2 := HR5.out.cell HI.out 2 _ rfl; have c3 := HR5.out.cell HI.out 3 _ rfl; have v2 := HR5.out.fz (k * 7 + 2); have v3 := HR5.out.fz (k * 7 + 3); have hz5 := hb5.size
          have HRd : Hid (Raw 7 103 ((w5.setCell ⟨gb, k * 7 + 2, none⟩ (.int .i64 0)).setCell ⟨gb, k * 7 + 3, none⟩ (.slice a9 1 c9)) gb (css.set k [.int .i64 1, .string nv, .int .i64 0, .slice a9 1 c9, .string ⟨#[]⟩, .slice da 0 dc, .string ⟨#[]⟩]) rest) := Lib.hid (HR5.out.set2 HI.out (by decide) (by decide) (.int .i64 0) (.slice a9 1 c9))
          have HGd := Lib.hid (((HGq2.out.below hb5 HGq2.out.lt).other (a := ⟨gb, k * 7 + 2, none⟩) (u := .int .i64 0) (by show gb ≠ w1.heap.size; omega)).other (a := ⟨gb, k * 7 + 3, none⟩) (u := .slice a9 1 c9) (by show gb ≠ w1.heap.size; omega))
          have HKd : Hid (∀ q, q < wr.heap.size → q ≠ w1.heap.size → q ≠ gb → ((w5.setCell ⟨gb, k * 7 + 2, none⟩ (.int .i64 0)).setCell ⟨gb, k * 7 + 3, none⟩ (.slice a9 1 c9)).heap[q]? = wr.heap[q]?) := Lib.hid (fun q hq hne hg => (heap_set_ne (fun e => hg e.symm)).trans ((heap_set_ne (fun e => hg e.symm)).trans ((hb5.block q (by omega)).trans (HKq.out q hq hne))))
          have HBd : Hid (Below w.heap.size w ((w5.setCell ⟨gb, k * 7 + 2, none⟩ (.int .i64 0)).setCell ⟨gb, k * 7 + 3, none⟩ (.slice a9 1 c9))) := Lib.hid (((HBw.out.trans (hb5.mono HBw.out.size)).setCell (by show w.heap.size ≤ gb; omega) _).setCell (by show w.heap.size ≤ gb; omega) _)
          have HZd : Hid (w2.heap.size ≤ ((w5.setCell ⟨gb, k * 7 + 2, none⟩ (.int .i64 0)).setCell ⟨gb, k * 7 + 3, none⟩ (.slice a9 1 c9)).heap.size) := Lib.hid (by simp; omega)
          have HRY : Hid (RBnd.rd (fun q => w2.heap.size ≤ q ∧ q ≠ gb) ((w5.setCell ⟨gb, k * 7 + 2, none⟩ (.int .i64 0)).setCell ⟨gb, k * 7 + 3, none⟩ (.slice a9 1 c9)) [.int .i64 1, .string nv, .int .i64 0, .slice a9 1 c9, .string ⟨#[]⟩, .slice da 0 dc, .string ⟨#[]⟩] y) := Lib.hid (by
            rw [← HYe.out, HR1'.out.1, ← HNm.out]
            refine ⟨_, _, rfl, ⟨a9, c9, rfl, ?_⟩, ⟨da, dc, rfl, Sl.zero HDa.out.1 HDa.out.2⟩⟩
            have hne : ∀ q, wq.heap.size ≤ q → gb ≠ q := fun q hq => by omega
            exact ((HS9.out.set (hne)).set hne).mono (fun q hq _ => ⟨by have hq : wq.heap.size ≤ q := hq; omega, fun e => hne q hq e.symm⟩))
          clear hs9
          have HLz : Hid (Lies RBnd (fun q => w2.heap.size ≤ q) ((w5.setCell ⟨gb, k * 7 + 2, none⟩ (.int .i64 0)).setCell ⟨gb, k * 7 + 3, none⟩ (.slice a9 1 c9)) gb (css.set k [.int .i64 1, .string nv, .int .i64 0, .slice a9 1 c9, .string ⟨#[]⟩, .slice da 0 dc, .string ⟨#[]⟩]) (renUp L (k + 1))) := Lib.hid (by
            rw [HNext.out]
            exact (HL.out.frame (w' := ((w5.setCell ⟨gb, k * 7 + 2, none⟩ (.int .i64 0)).setCell ⟨gb, k * 7 + 3, none⟩ (.slice a9 1 c9))) (fun q hq hne hlt => HKd.out q hlt (by have : w2.heap.size ≤ q := hq; omega) hne)).set k HRY.out)
          have HOz : Hid (Own RBnd 103 (fun q => w2.heap.size ≤ q) ((w5.setCell ⟨gb, k * 7 + 2, none⟩ (.int .i64 0)).setCell ⟨gb, k * 7 + 3, none⟩ (.slice a9 1 c9)) (w1.heap.size + 1) (.slice (some ⟨gb, 0, none⟩) n c5) (renUp L (k + 1))) := Lib.hid (by
            have h := HRd.out.own HLz.out hgb (by rw [renUp_len (by rw [HN.out]; omega), HN.out]; exact hlc) hcm (by rw [List.length_set]; exact HSl.out)
            rwa [renUp_len (by rw [HN.out]; omega), HN.out] at h)
          have HGz : Hid (Bx ((w5.setCell ⟨gb, k * 7 + 2, none⟩ (.int .i64 0)).setCell ⟨gb, k * 7 + 3, none⟩ (.slice a9 1 c9)) w1.heap.size 100 (cntV L (k + 1))) := Lib.hid (by rw [HR1'.out.2, HCV0.out]; exact HGd.out)
          have HKz : Hid (∀ q, q < w2.heap.size → q ≠ w1.heap.size → (Value.slice (some ⟨gb, 0, none⟩) n c5).ownBlock ≠ some q → ((w5.setCell ⟨gb, k * 7 + 2, none⟩ (.int .i64 0)).setCell ⟨gb, k * 7 + 3, none⟩ (.slice a9 1 c9)).heap[q]? = w2.heap[q]?) := Lib.hid (fun q hq hne ho => (HKd.out q (by omega) hne (HOl.out q hq ho)).trans (HK.out q hq hne ho))
          go_wp2_with fail
          go_roundw
          case rel => exact ⟨k + 1, by omega, by go_num, HOz, HGz, HKz, HBd.out, HZd.out⟩
          case measure => simp [intOf]; omega
        · skip
          have hkd : kd = 2 := hok
          subst hkd; have HR1' := Lib.hid (HRen.out.at2 rfl); rw [HCe.out.2.1] at HR1'; clear HRen; have e0 := HR.out.cell HI.out 0 _ rfl; rw [Nat.add_zero] at e0; have g1 := HGq.out.cell 2 _ rfl; have v1 := HGq.out.fz 2; have HGb := Lib.hid (HGq.out.set 2 (.int .i64 ((n2 : Int) + 1)))
          have HRb : Hid (Raw 7 103 (wr.setCell ⟨w1.heap.size, 2, none⟩ (.int .i64 ((n2 : Int) + 1))) gb css rest) := Lib.hid (HR.out.other (by show w1.heap.size ≠ gb; exact hgne))
          have HKb : Hid (∀ q, q < wr.heap.size → q ≠ w1.heap.size → (wr.setCell ⟨w1.heap.size, 2, none⟩ (.int .i64 ((n2 : Int) + 1))).heap[q]? = wr.heap[q]?) := Lib.hid (fun q hq hne => heap_set_ne (fun e => hne e.symm))
          have HBb : Hid (Below w.heap.size w (wr.setCell ⟨w1.heap.size, 2, none⟩ (.int .i64 ((n2 : Int) + 1)))) := Lib.hid (hB.setCell (by show w.heap.size ≤ w1.heap.size; omega) _)
          have HZb : Hid ((wr.setCell ⟨w1.heap.size, 2, none⟩ (.int .i64 ((n2 : Int) + 1))).heap.size = wr.heap.size) := Lib.hid (by simp)
          go_wp2_with fail
          have f0 := HRb.out.cell HI.out 0 _ rfl; have h1 := HGb.out.cell 2 _ rfl; rw [Nat.add_zero] at f0; clear e0 g1 v1
          generalize (wr.setCell ⟨w1.heap.size, 2, none⟩ (.int .i64 ((n2 : Int) + 1))) = wb at *
          have HIt : Hid (∀ t : Later wb, Calls Tryz.prog 56 #[.int .i64 ((n2 : Int) + 1)] t.w fun e w' => e = .returned (.string (decS (n2 + 1))) ∧ Below t.w.heap.size t.w w') := Lib.hid (fun t => by
            have h := itoa_nat (n2 + 1) (by omega) t.w ((HE.out wb HBb.out).at_ t)
            rwa [Int.natCast_add, Int.natCast_one] at h)
          have hds : (decS (n2 + 1)).size ≤ 6 := by
            show (Lib.decDigits (n2 + 1)).length ≤ 6
            exact dec_len 5 _ (by omega)
          have HNm : Hid (∀ c : UInt8, (⟨#[c]⟩ : Str) ++ decS (n2 + 1) = nm c (n2 + 1)) := Lib.hid (fun c => rfl)
          generalize decS (n2 + 1) = dd at *
          have F0 := Later.cell f0; have H1 := Later.cell h1; clear f0 h1
          have hix : ∀ W : World, (Instr.index 104 (.agg #[.string ⟨#[]⟩, .string ⟨#[110]⟩, .string ⟨#[114]⟩, .string ⟨#[65]⟩]) (.int .i64 2)).run Tryz.prog W = .ok (.string ⟨#[114]⟩) W := fun W => by kernel_rfl
          refine wp_region_later (by kernel_rfl) (by kernel_rfl) ?_
          repeat (go_big_quiet_step (first | fail | exact Later.call (HIt.out _)))
          refine wpQuiet_nil ?_
          rintro _ ⟨t9, rfl⟩
          have HBq : Hid (Below wb.heap.size wb t9.w) := Lib.hid t9.b
          generalize t9.w = wq at *
          clear F0 H1 HIt
          have hzb : wb.heap.size = wr.heap.size := HZb.out
          have hzq := HBq.out.size; rw [hzb] at hzq; have HRq := Lib.hid (HRb.out.below HBq.out HRb.out.lt); have HGq2 := Lib.hid (HGb.out.below HBq.out HGb.out.lt)
          have HKq : Hid (∀ q, q < wr.heap.size → q ≠ w1.heap.size → wq.heap[q]? = wr.heap[q]?) := Lib.hid (fun q hq hne => (HBq.out.block q (by rw [HZb.out]; exact hq)).trans (HKb.out q hq hne))
          have HBw : Hid (Below w.heap.size w wq) := Lib.hid (HBb.out.trans (HBq.out.mono HBb.out.size))
          have p0 := HRq.out.cell HI.out 0 _ rfl; rw [Nat.add_zero] at p0; clear hzb HRb HGb HKb HBb HBq HZb HR HGq; have c4 := HRq.out.cell HI.out 4 _ rfl; have v4 := HRq.out.fz (k * 7 + 4)
          have HRd : Hid (Raw 7 103 (wq.setCell ⟨gb, k * 7 + 4, none⟩ (.string ((⟨#[114]⟩ : Str) ++ dd))) gb (css.set k [.int .i64 2, .string nv, .int .i64 0, .slice ta 0 tc, .string ((⟨#[114]⟩ : Str) ++ dd), .slice da 0 dc, .string ⟨#[]⟩]) rest) := Lib.hid (HRq.out.set HI.out (j := 4) (by decide) _)
          have HGd := Lib.hid (HGq2.out.other (a := ⟨gb, k * 7 + 4, none⟩) (u := .string ((⟨#[114]⟩ : Str) ++ dd)) (by show gb ≠ w1.heap.size; omega))
          have HKd : Hid (∀ q, q < wr.heap.size → q ≠ w1.heap.size → q ≠ gb → (wq.setCell ⟨gb, k * 7 + 4, none⟩ (.string ((⟨#[114]⟩ : Str) ++ dd))).heap[q]? = wr.heap[q]?) := Lib.hid (fun q hq hne hg => (heap_set_ne (fun e => hg e.symm)).trans (HKq.out q hq hne))
          have HBd : Hid (Below w.heap.size w (wq.setCell ⟨gb, k * 7 + 4, none⟩ (.string ((⟨#[114]⟩ : Str) ++ dd)))) := Lib.hid (HBw.out.setCell (by show w.heap.size ≤ gb; omega) _)
          have HZd : Hid (w2.heap.size ≤ (wq.setCell ⟨gb, k * 7 + 4, none⟩ (.string ((⟨#[114]⟩ : Str) ++ dd))).heap.size) := Lib.hid (by simp; omega)
          have HRY : Hid (RBnd.rd (fun q => w2.heap.size ≤ q ∧ q ≠ gb) (wq.setCell ⟨gb, k * 7 + 4, none⟩ (.string ((⟨#[114]⟩ : Str) ++ dd))) [.int .i64 2, .string nv, .int .i64 0, .slice ta 0 tc, .string ((⟨#[114]⟩ : Str) ++ dd), .slice da 0 dc, .string ⟨#[]⟩] y) := Lib.hid (by
            rw [← HYe.out, HR1'.out.1, ← HNm.out]
            exact ⟨_, _, rfl, ⟨ta, tc, rfl, Sl.zero HTa.out.1 HTa.out.2⟩, ⟨da, dc, rfl, Sl.zero HDa.out.1 HDa.out.2⟩⟩)
          have HLz : Hid (Lies RBnd (fun q => w2.heap.size ≤ q) (wq.setCell ⟨gb, k * 7 + 4, none⟩ (.string ((⟨#[114]⟩ : Str) ++ dd))) gb (css.set k [.int .i64 2, .string nv, .int .i64 0, .slice ta 0 tc, .string ((⟨#[114]⟩ : Str) ++ dd), .slice da 0 dc, .string ⟨#[]⟩]) (renUp L (k + 1))) := Lib.hid (by
            rw [HNext.out]
            exact (HL.out.frame (w' := (wq.setCell ⟨gb, k * 7 + 4, none⟩ (.string ((⟨#[114]⟩ : Str) ++ dd)))) (fun q hq hne hlt => HKd.out q hlt (by have : w2.heap.size ≤ q := hq; omega) hne)).set k HRY.out)
          have HOz : Hid (Own RBnd 103 (fun q => w2.heap.size ≤ q) (wq.setCell ⟨gb, k * 7 + 4, none⟩ (.string ((⟨#[114]⟩ : Str) ++ dd))) (w1.heap.size + 1) (.slice (some ⟨gb, 0, none⟩) n c5) (renUp L (k + 1))) := Lib.hid (by
            have h := HRd.out.own HLz.out hgb (by rw [renUp_len (by rw [HN.out]; omega), HN.out]; exact hlc) hcm (by rw [List.length_set]; exact HSl.out)
            rwa [renUp_len (by rw [HN.out]; omega), HN.out] at h)
          have HGz : Hid (Bx (wq.setCell ⟨gb, k * 7 + 4, none⟩ (.string ((⟨#[114]⟩ : Str) ++ dd))) w1.heap.size 100 (cntV L (k + 1))) := Lib.hid (by rw [HR1'.out.2, HCV0.out]; exact HGd.out)
          have HKz : Hid (∀ q, q < w2.heap.size → q ≠ w1.heap.size → (Value.slice (some ⟨gb, 0, none⟩) n c5).ownBlock ≠ some q → (wq.setCell ⟨gb, k * 7 + 4, none⟩ (.string ((⟨#[114]⟩ : Str) ++ dd))).heap[q]? = w2.heap[q]?) := Lib.hid (fun q hq hne ho => (HKd.out q (by omega) hne (HOl.out q hq ho)).trans (HK.out q hq hne ho))
          go_wp2_with fail
          go_roundw
          case rel => exact ⟨k + 1, by omega, by go_num, HOz, HGz, HKz, HBd.out, HZd.out⟩
          case measure => simp [intOf]; omega
        · skip
          have hkd : kd = 3 := hok
          subst hkd; have HR1' := Lib.hid (HRen.out.at3 rfl); rw [HCe.out.2.2] at HR1'; clear HRen; have e0 := HR.out.cell HI.out 0 _ rfl; rw [Nat.add_zero] at e0; have g1 := HGq.out.cell 3 _ rfl; have v1 := HGq.out.fz 3; have HGb := Lib.hid (HGq.out.set 3 (.int .i64 ((n3 : Int) + 1)))
          have HRb : Hid (Raw 7 103 (wr.setCell ⟨w1.heap.size, 3, none⟩ (.int .i64 ((n3 : Int) + 1))) gb css rest) := Lib.hid (HR.out.other (by show w1.heap.size ≠ gb; exact hgne))
          have HKb : Hid (∀ q, q < wr.heap.size → q ≠ w1.heap.size → (wr.setCell ⟨w1.heap.size, 3, none⟩ (.int .i64 ((n3 : Int) + 1))).heap[q]? = wr.heap[q]?) := Lib.hid (fun q hq hne => heap_set_ne (fun e => hne e.symm))
          have HBb : Hid (Below w.heap.size w (wr.setCell ⟨w1.heap.size, 3, none⟩ (.int .i64 ((n3 : Int) + 1)))) := Lib.hid (hB.setCell (by show w.heap.size ≤ w1.heap.size; omega) _)
          have HZb : Hid ((wr.setCell ⟨w1.heap.size, 3, none⟩ (.int .i64 ((n3 : Int) + 1))).heap.size = wr.heap.size) := Lib.hid (by simp)
          go_wp2_with fail
          have f0 := HRb.out.cell HI.out 0 _ rfl; have h1 := HGb.out.cell 3 _ rfl; rw [Nat.add_zero] at f0; clear e0 g1 v1
          generalize (wr.setCell ⟨w1.heap.size, 3, none⟩ (.int .i64 ((n3 : Int) + 1))) = wb at *
          have HIt : Hid (∀ t : Later wb, Calls Tryz.prog 56 #[.int .i64 ((n3 : Int) + 1)] t.w fun e w' => e = .returned (.string (decS (n3 + 1))) ∧ Below t.w.heap.size t.w w') := Lib.hid (fun t => by
            have h := itoa_nat (n3 + 1) (by omega) t.w ((HE.out wb HBb.out).at_ t)
            rwa [Int.natCast_add, Int.natCast_one] at h)
          have hds : (decS (n3 + 1)).size ≤ 6 := by
            show (Lib.decDigits (n3 + 1)).length ≤ 6
            exact dec_len 5 _ (by omega)
          have HNm : Hid (∀ c : UInt8, (⟨#[c]⟩ : Str) ++ decS (n3 + 1) = nm c (n3 + 1)) := Lib.hid (fun c => rfl)
          generalize decS (n3 + 1) = dd at *
          have F0 := Later.cell f0; have H1 := Later.cell h1; clear f0 h1
          have hix : ∀ W : World, (Instr.index 104 (.agg #[.string ⟨#[]⟩, .string ⟨#[110]⟩, .string ⟨#[114]⟩, .string ⟨#[65]⟩]) (.int .i64 3)).run Tryz.prog W = .ok (.string ⟨#[65]⟩) W := fun W => by kernel_rfl
          refine wp_region_later (by kernel_rfl) (by kernel_rfl) ?_
          repeat (go_big_quiet_step (first | fail | exact Later.call (HIt.out _)))
          refine wpQuiet_nil ?_
          rintro _ ⟨t9, rfl⟩
          have HBq : Hid (Below wb.heap.size wb t9.w) := Lib.hid t9.b
          generalize t9.w = wq at *
          clear F0 H1 HIt
          have hzb : wb.heap.size = wr.heap.size := HZb.out
          have hzq := HBq.out.size; rw [hzb] at hzq; have HRq := Lib.hid (HRb.out.below HBq.out HRb.out.lt); have HGq2 := Lib.hid (HGb.out.below HBq.out HGb.out.lt)
          have HKq : Hid (∀ q, q < wr.heap.size → q ≠ w1.heap.size → wq.heap[q]? = wr.heap[q]?) := Lib.hid (fun q hq hne => (HBq.out.block q (by rw [HZb.out]; exact hq)).trans (HKb.out q hq hne))
          have HBw : Hid (Below w.heap.size w wq) := Lib.hid (HBb.out.trans (HBq.out.mono HBb.out.size))
          have p0 := HRq.out.cell HI.out 0 _ rfl; rw [Nat.add_zero] at p0; clear hzb HRb HGb HKb HBb HBq HZb HR HGq; have c6 := HRq.out.cell HI.out 6 _ rfl; have v6 := HRq.out.fz (k * 7 + 6)
          have HRd : Hid (Raw 7 103 (wq.setCell ⟨gb, k * 7 + 6, none⟩ (.string ((⟨#[65]⟩ : Str) ++ dd))) gb (css.set k [.int .i64 3, .string nv, .int .i64 0, .slice ta 0 tc, .string ⟨#[]⟩, .slice da 0 dc, .string ((⟨#[65]⟩ : Str) ++ dd)]) rest) := Lib.hid (HRq.out.set HI.out (j := 6) (by decide) _)
          have HGd := Lib.hid (HGq2.out.other (a := ⟨gb, k * 7 + 6, none⟩) (u := .string ((⟨#[65]⟩ : Str) ++ dd)) (by show gb ≠ w1.heap.size; omega))
          have HKd : Hid (∀ q, q < wr.heap.size → q ≠ w1.heap.size → q ≠ gb → (wq.setCell ⟨gb, k * 7 + 6, none⟩ (.string ((⟨#[65]⟩ : Str) ++ dd))).heap[q]? = wr.heap[q]?) := Lib.hid (fun q hq hne hg => (heap_set_ne (fun e => hg e.symm)).trans (HKq.out q hq hne))
          have HBd : Hid (Below w.heap.size w (wq.setCell ⟨gb, k * 7 + 6, none⟩ (.string ((⟨#[65]⟩ : Str) ++ dd)))) := Lib.hid (HBw.out.setCell (by show w.heap.size ≤ gb; omega) _)
          have HZd : Hid (w2.heap.size ≤ (wq.setCell ⟨gb, k * 7 + 6, none⟩ (.string ((⟨#[65]⟩ : Str) ++ dd))).heap.size) := Lib.hid (by simp; omega)
          have HRY : Hid (RBnd.rd (fun q => w2.heap.size ≤ q ∧ q ≠ gb) (wq.setCell ⟨gb, k * 7 + 6, none⟩ (.string ((⟨#[65]⟩ : Str) ++ dd))) [.int .i64 3, .string nv, .int .i64 0, .slice ta 0 tc, .string ⟨#[]⟩, .slice da 0 dc, .string ((⟨#[65]⟩ : Str) ++ dd)] y) := Lib.hid (by
            rw [← HYe.out, HR1'.out.1, ← HNm.out]
            exact ⟨_, _, rfl, ⟨ta, tc, rfl, Sl.zero HTa.out.1 HTa.out.2⟩, ⟨da, dc, rfl, Sl.zero HDa.out.1 HDa.out.2⟩⟩)
          have HLz : Hid (Lies RBnd (fun q => w2.heap.size ≤ q) (wq.setCell ⟨gb, k * 7 + 6, none⟩ (.string ((⟨#[65]⟩ : Str) ++ dd))) gb (css.set k [.int .i64 3, .string nv, .int .i64 0, .slice ta 0 tc, .string ⟨#[]⟩, .slice da 0 dc, .string ((⟨#[65]⟩ : Str) ++ dd)]) (renUp L (k + 1))) := Lib.hid (by
            rw [HNext.out]
            exact (HL.out.frame (w' := (wq.setCell ⟨gb, k * 7 + 6, none⟩ (.string ((⟨#[65]⟩ : Str) ++ dd)))) (fun q hq hne hlt => HKd.out q hlt (by have : w2.heap.size ≤ q := hq; omega) hne)).set k HRY.out)
          have HOz : Hid (Own RBnd 103 (fun q => w2.heap.size ≤ q) (wq.setCell ⟨gb, k * 7 + 6, none⟩ (.string ((⟨#[65]⟩ : Str) ++ dd))) (w1.heap.size + 1) (.slice (some ⟨gb, 0, none⟩) n c5) (renUp L (k + 1))) := Lib.hid (by
            have h := HRd.out.own HLz.out hgb (by rw [renUp_len (by rw [HN.out]; omega), HN.out]; exact hlc) hcm (by rw [List.length_set]; exact HSl.out)
            rwa [renUp_len (by rw [HN.out]; omega), HN.out] at h)
          have HGz : Hid (Bx (wq.setCell ⟨gb, k * 7 + 6, none⟩ (.string ((⟨#[65]⟩ : Str) ++ dd))) w1.heap.size 100 (cntV L (k + 1))) := Lib.hid (by rw [HR1'.out.2, HCV0.out]; exact HGd.out)
          have HKz : Hid (∀ q, q < w2.heap.size → q ≠ w1.heap.size → (Value.slice (some ⟨gb, 0, none⟩) n c5).ownBlock ≠ some q → (wq.setCell ⟨gb, k * 7 + 6, none⟩ (.string ((⟨#[65]⟩ : Str) ++ dd))).heap[q]? = w2.heap[q]?) := Lib.hid (fun q hq hne ho => (HKd.out q (by omega) hne (HOl.out q hq ho)).trans (HK.out q hq hne ho))
          go_wp2_with fail
          go_roundw
          case rel => exact ⟨k + 1, by omega, by go_num, HOz, HGz, HKz, HBd.out, HZd.out⟩
          case measure => simp [intOf]; omega
      · obtain rfl : k = n := by omega
        have HAll : renUp L k = ren L := by rw [← HN.out]; exact renUp_all L
        have hO := HO.out; rw [HAll] at hO; obtain ⟨_, _, hv, hsl⟩ := hO.sl; rw [Value.slice.injEq] at hv; obtain ⟨rfl, hkr, rfl⟩ := hv; have HCw := Lib.hid (HCS.out wr hB _ a5 _ c5 hsl); rw [← hkr] at HCw
        have hne1 : (Value.slice a5 k c5).ownBlock ≠ some w.heap.size := HO.out.ne (by omega)
        have hne2 : (Value.slice a5 k c5).ownBlock ≠ some (w.heap.size + 1) := HO.out.ne (by omega)
        have HAr : Hid (Bx wr _ _ _) := Lib.hid ((HK.out w.heap.size (by omega) (by omega) hne1).trans HA2.out)
        have HRr : Hid (Bx wr _ _ _) := Lib.hid ((HK.out (w.heap.size + 1) (by omega) (by omega) hne2).trans HR2.out)
        have y0 := HAr.out.cell 0 _ rfl; have y1 := HAr.out.cell 1 _ rfl; have y2 := HAr.out.cell 2 _ rfl; have y3 := HAr.out.cell 3 _ rfl; have y4 := HAr.out.cell 4 _ rfl; have HBr := Lib.hid hB
        have hzr : w.heap.size + 2 ≤ wr.heap.size := by omega
        clear HAll hO hsl hkr hne1 hne2 HO HG HK hB HO2 HG2 HCS HA2 HR2 HB2
        generalize hbb : ren L = b at *
        clear hbb
        cases hok : subSchOk b s with
        | false =>
          have HBd := Lib.hid (HBad.out hok); rw [(sch_no hok).2, (sch_no hok).1] at HCw; clear hok HGood HBad
          go_wp2_with fail
          refine HCw.out.mono ?_
          rintro e w3 ⟨⟨ds, rfl, hos⟩, hb3⟩
          obtain ⟨base, p, t, q, hb0, rfl, ⟨ap3, cp3, rfl, _⟩, ⟨at3, ct3, rfl, _⟩, hq⟩ := hos; obtain ⟨aq3, cq3, rfl, _⟩ := hq.sl; obtain ⟨w7, hfold7⟩ : ∃ q, w3.alloc (.cells #[.slice ap3 noSch.params.length cp3, .string noSch.result.elem, .string noSch.result.shape.row, .slice at3 noSch.result.shape.dims.length ct3, .slice aq3 noSch.wh.length cq3] 41) = q := ⟨_, rfl⟩; have HRw := Lib.hid ((HRr.out.below hb3 HRr.out.lt).alloc (.cells #[.slice ap3 noSch.params.length cp3, .string noSch.result.elem, .string noSch.result.shape.row, .slice at3 noSch.result.shape.dims.length ct3, .slice aq3 noSch.wh.length cq3] 41)); rw [hfold7] at HRw
          have HWw : Hid (Below w.heap.size w w7) := Lib.hid (by rw [← hfold7]; exact (HBr.out.trans (hb3.mono HBr.out.size)).alloc (by have := hb3.size; omega) _)
          clear hq; have v0 := HRw.out.cell 0 _ rfl; have v1 := HRw.out.cell 1 _ rfl; have v2 := HRw.out.cell 2 _ rfl; have v3 := HRw.out.cell 3 _ rfl; have v4 := HRw.out.cell 4 _ rfl; have u0 := HRw.out.fz 0; have u1 := HRw.out.fz 1; have u2 := HRw.out.fz 2; have u3 := HRw.out.fz 3; have u4 := HRw.out.fz 4; have hlr := HRw.out.lt; have HX60 := Lib.hid (((((HRw.out.set 0 (.slice none 0 0)).set 1 (.string ⟨#[]⟩)).set 2 (.string ⟨#[]⟩)).set 3 (.slice none 0 0)).set 4 (.slice none 0 0)); have s0 := HX60.out.cell 0 _ rfl; have s1 := HX60.out.cell 1 _ rfl; have s2 := HX60.out.cell 2 _ rfl; have s3 := HX60.out.cell 3 _ rfl; have s4 := HX60.out.cell 4 _ rfl
          go_wp2_with fail
          refine bodyPost_ret (v := .tuple #[.agg #[.slice none 0 0, .string ⟨#[]⟩, .string ⟨#[]⟩, .slice none 0 0, .slice none 0 0], .int .i64 3]) (by simp [results, Tryz.results28, go_sem, s0, s1, s2, s3, s4, hlr]) rfl ?_
          refine ⟨⟨[.slice none 0 0, .string ⟨#[]⟩, .string ⟨#[]⟩, .slice none 0 0, .slice none 0 0], by rw [HBd.out.1], by rw [HBd.out.2]; exact (OwnSch.no _ _).rd⟩, ?_⟩
          repeat (first | exact HWw.out | refine Below.setCell ?_ (by show _ ≤ w.heap.size + 1; omega) _)
        | true =>
          obtain ⟨hg0, hg1⟩ := HGood.out hok; have HG0 := Lib.hid hg0; have HG1 := Lib.hid hg1
          have HE0 : subSchE b s = 0 := by unfold subSchE; rw [hok]; rfl
          have HS1 : subSch b s = subSchR b s := by unfold subSch; rw [hok]; rfl
          rw [HE0, HS1] at HCw
          have HSw : Hid ((subSchR b s).wh = s.wh.map (subRaw b)) := Lib.hid rfl
          have HSp : Hid (can s = ⟨(subSchR b s).params, (subSchR b s).result, tidy (subSchR b s).wh⟩) := Lib.hid hg1
          have hwl12 : (subSchR b s).wh.length ≤ 12 := by rw [HSw.out, List.length_map]; exact HWL.out
          clear hok HGood HBad hg0 hg1 HE0 HS1 HG1 HSw
          generalize subSchR b s = s' at *
          go_wp2_with fail
          refine HCw.out.mono ?_
          rintro e w3 ⟨⟨ds, rfl, hos⟩, hb3⟩
          obtain ⟨base, p, t, q, hb0, rfl, ⟨ap3, cp3, rfl, hp3⟩, ⟨at3, ct3, rfl, ht3⟩, hq⟩ := hos; obtain ⟨aq3, cq3, rfl, _⟩ := hq.sl; obtain ⟨w7, hfold7⟩ : ∃ q, w3.alloc (.cells #[.slice ap3 s'.params.length cp3, .string s'.result.elem, .string s'.result.shape.row, .slice at3 s'.result.shape.dims.length ct3, .slice aq3 s'.wh.length cq3] 41) = q := ⟨_, rfl⟩
          have HB7 : Hid (Below w3.heap.size w3 w7) := Lib.hid (by rw [← hfold7]; exact (Below.refl _ _).alloc (Nat.le_refl _) _)
          have HP7 : Hid (Bx w7 w3.heap.size 41 [.slice ap3 s'.params.length cp3, .string s'.result.elem, .string s'.result.shape.row, .slice at3 s'.result.shape.dims.length ct3, .slice aq3 s'.wh.length cq3]) := Lib.hid (by rw [← hfold7]; exact Bx.fresh _ _ _)
          have hz3 := hb3.size
          have hz7 : w3.heap.size < w7.heap.size := HP7.out.lt
          have HR7 := Lib.hid ((HRr.out.below hb3 HRr.out.lt).below HB7.out (by have := HRr.out.lt; omega))
          have HW7 : Hid (Below w.heap.size w w7) := Lib.hid ((HBr.out.trans (hb3.mono HBr.out.size)).trans (HB7.out.mono (by omega)))
          have HOB : Hid (∀ q, (Value.slice aq3 s'.wh.length cq3).ownBlock = some q → base ≤ q ∧ q < w3.heap.size) := Lib.hid (fun q h => hq.block h)
          have HOq : Hid (Own RLin 65 (fun k => wr.heap.size ≤ k ∧ k ≠ w3.heap.size) w7 wr.heap.size (.slice aq3 s'.wh.length cq3) s'.wh) := Lib.hid ((((hq.lower hb0).mono (S' := fun k => wr.heap.size ≤ k ∧ k ≠ w3.heap.size) (fun k hk hlt => ⟨by have hk : base ≤ k := hk; omega, by omega⟩))).below HB7.out)
          have HPs := Lib.hid hp3; have HTs := Lib.hid ht3
          have HDel := Lib.hid (delete_Lin HOq.out (by omega) (by omega) 60 (enter_any Tryz.func60 rfl rfl) dropL (fun S' W x cs hr => canonical_1 hr))
          have p4 := HP7.out.cell 4 _ rfl; clear hp3 ht3 hq HCw
          go_wp2_with fail
          refine HDel.out.mono ?_
          rintro e w8 ⟨⟨v1, rfl, hown8, hk8⟩, hb8⟩
          clear HDel
          have hz8 : w7.heap.size ≤ w8.heap.size := hb8.size
          have HN8 : Hid (v1.ownBlock ≠ some w3.heap.size) := Lib.hid (fun e => (hk8.own _ e).elim (fun e => by have := (HOB.out _ e).2; omega) (fun e => by omega))
          have HK8 : Hid (∀ q, q < w7.heap.size → q ≠ w3.heap.size → (Value.slice aq3 s'.wh.length cq3).ownBlock ≠ some q → w8.heap[q]? = w7.heap[q]?) := Lib.hid (fun q hq _ hne => hk8.block q hq hne)
          have HV8 : Hid (∀ q, v1.ownBlock = some q → (Value.slice aq3 s'.wh.length cq3).ownBlock = some q ∨ w7.heap.size ≤ q) := Lib.hid hk8.own
          have HP8 : Hid (Bx w8 w3.heap.size _ _) := Lib.hid ((hk8.block w3.heap.size hz7 (fun e => by have := (HOB.out _ e).2; omega)).trans HP7.out)
          have HB8 := Lib.hid hb8
          have hl8 : (s'.wh.filter (fun x => !dropL x)).length ≤ 12 := Nat.le_trans (List.length_filter_le _ _) hwl12
          obtain ⟨a8, m8, c8, rfl⟩ := hown8.shape; have HO8 := Lib.hid hown8; clear hown8 hk8 hb8; have q4 := HP8.out.cell 4 _ rfl; have f4 := HP8.out.fz 4; obtain ⟨w9, hfold9⟩ : ∃ q, w8.setCell ⟨w3.heap.size, 4, none⟩ (.slice a8 m8 c8) = q := ⟨_, rfl⟩
          have HP9 : Hid (Bx w9 w3.heap.size 41 [.slice ap3 s'.params.length cp3, .string s'.result.elem, .string s'.result.shape.row, .slice at3 s'.result.shape.dims.length ct3, .slice a8 m8 c8]) := Lib.hid (by rw [← hfold9]; exact HP8.out.set 4 _)
          have HH9 : Hid (∀ q, q ≠ w3.heap.size → w9.heap[q]? = w8.heap[q]?) := Lib.hid (fun q hq => by rw [← hfold9]; exact heap_set_ne (fun e => hq e.symm))
          have hz9 : w9.heap.size = w8.heap.size := by rw [← hfold9]; simp
          have HO9 : Hid (Own RLin 65 (fun k => wr.heap.size ≤ k ∧ k ≠ w3.heap.size) w9 wr.heap.size (.slice a8 m8 c8) (s'.wh.filter (fun x => !dropL x))) := Lib.hid (HO8.out.frame (fun k hk h => HH9.out k (by rcases h with h | h; exact h.2; exact fun e => HN8.out (by rw [← e]; exact h))) (by omega))
          have HB9 : Hid (Below wr.heap.size w7 w9) := Lib.hid (by rw [← hfold9]; exact HB8.out.setCell (by show wr.heap.size ≤ w3.heap.size; omega) _)
          have HSrt := Lib.hid (sortFunc_Lin HO9.out (by omega) hl8 63 (enter_any Tryz.func63 rfl rfl) cmpLin totLin.pre (fun S' T' W x y cs ds h1 h2 => linear_Compare h1 h2))
          have r4 := HP9.out.cell 4 _ rfl; have HZ9 := Lib.hid hz9; clear hz9
          go_wp2_with fail
          refine HSrt.out.mono ?_
          rintro e w10 ⟨⟨rfl, m, hperm, hle, hown10, hk10⟩, hb10⟩
          clear HSrt
          have hz10 : w8.heap.size ≤ w10.heap.size := by have := hb10.size; rw [HZ9.out] at this; exact this
          have HP10 : Hid (Bx w10 w3.heap.size _ _) := Lib.hid ((hk10.block w3.heap.size HP9.out.lt HN8.out).trans HP9.out)
          have HK10 : Hid (∀ q, q < w7.heap.size → q ≠ w3.heap.size → (Value.slice aq3 s'.wh.length cq3).ownBlock ≠ some q → w10.heap[q]? = w7.heap[q]?) := Lib.hid (fun q hq hn ho => (hk10.block q (by rw [HZ9.out]; omega) (fun e => (HV8.out q e).elim ho (fun e => by omega))).trans ((HH9.out q hn).trans (HK8.out q hq hn ho)))
          have HB10 : Hid (Below wr.heap.size w7 w10) := Lib.hid (HB9.out.trans hb10)
          have hl10 : m.length ≤ 12 := by rw [hperm.length_eq]; exact hl8
          have HTd : Hid (kept (newB eqLin m) m m.length = tidy s'.wh) := Lib.hid (by
            rw [← compG_kept eqLin_iff]
            exact comp_tidy totLin eqLin_iff dropL s'.wh m hle (fun z => hperm.mem_iff))
          have HCpt := Lib.hid (compact_Lin hown10 (by omega) (by omega) 65 (enter_any Tryz.func65 rfl rfl) eqLin (fun S' T' W x y cs ds h1 h2 => types_same h1 h2))
          rw [HTd.out] at HCpt; have t4 := HP10.out.cell 4 _ rfl; clear hperm hle hown10 hk10 hb10 hl8 hl10 HTd
          go_wp2_with fail
          refine HCpt.out.mono ?_
          rintro e w11 ⟨⟨v2, rfl, hown11, hk11⟩, hb11⟩
          clear HCpt
          have hz11 : w10.heap.size ≤ w11.heap.size := hb11.size
          obtain ⟨a11, c11, rfl, hs11⟩ := hown11.sl
          have HP11 : Hid (Bx w11 w3.heap.size _ _) := Lib.hid ((hk11.block w3.heap.size HP10.out.lt HN8.out).trans HP10.out)
          have HK11 : Hid (∀ q, q < w7.heap.size → q ≠ w3.heap.size → (Value.slice aq3 s'.wh.length cq3).ownBlock ≠ some q → w11.heap[q]? = w7.heap[q]?) := Lib.hid (fun q hq hn ho => (hk11.block q (by omega) (fun e => (HV8.out q e).elim ho (fun e => by omega))).trans (HK10.out q hq hn ho))
          have HN11 : Hid ((Value.slice a11 (tidy s'.wh).length c11).ownBlock ≠ some w3.heap.size) := Lib.hid (fun e => (hk11.own _ e).elim HN8.out (fun e => by omega))
          have HO11 := Lib.hid hown11
          have HB11 : Hid (Below wr.heap.size w7 w11) := Lib.hid (HB10.out.trans hb11)
          clear hown11 hk11 hb11 hs11; have u4 := HP11.out.cell 4 _ rfl; have g4 := HP11.out.fz 4; have HP12 := Lib.hid (HP11.out.set 4 (.slice a11 (tidy s'.wh).length c11)); have p0 := HP12.out.cell 0 _ rfl; have p1 := HP12.out.cell 1 _ rfl; have p2 := HP12.out.cell 2 _ rfl; have p3 := HP12.out.cell 3 _ rfl; have p4' := HP12.out.cell 4 _ rfl
          have HRw : Hid (Bx (w11.setCell ⟨w3.heap.size, 4, none⟩ (.slice a11 (tidy s'.wh).length c11)) (w.heap.size + 1) 41 _) := Lib.hid ((HR7.out.below HB11.out (by omega)).other (by show w3.heap.size ≠ w.heap.size + 1; omega))
          have v0 := HRw.out.cell 0 _ rfl; have v1 := HRw.out.cell 1 _ rfl; have v2 := HRw.out.cell 2 _ rfl; have v3 := HRw.out.cell 3 _ rfl; have v4 := HRw.out.cell 4 _ rfl; have u0 := HRw.out.fz 0; have u1 := HRw.out.fz 1; have u2 := HRw.out.fz 2; have u3 := HRw.out.fz 3; have u4' := HRw.out.fz 4; have hlr := HRw.out.lt; have HX60 := Lib.hid (((((HRw.out.set 0 (.slice ap3 s'.params.length cp3)).set 1 (.string s'.result.elem)).set 2 (.string s'.result.shape.row)).set 3 (.slice at3 s'.result.shape.dims.length ct3)).set 4 (.slice a11 (tidy s'.wh).length c11)); have s0 := HX60.out.cell 0 _ rfl; have s1 := HX60.out.cell 1 _ rfl; have s2 := HX60.out.cell 2 _ rfl; have s3 := HX60.out.cell 3 _ rfl; have s4 := HX60.out.cell 4 _ rfl
          go_wp2_with fail
          refine bodyPost_ret (v := .tuple #[.agg #[.slice ap3 s'.params.length cp3, .string s'.result.elem, .string s'.result.shape.row, .slice at3 s'.result.shape.dims.length ct3, .slice a11 (tidy s'.wh).length c11], .int .i64 0]) (by simp [results, Tryz.results28, go_sem, s0, s1, s2, s3, s4, hlr]) rfl ?_
          have hF : ∀ q, q ≠ w3.heap.size → q ≠ w.heap.size + 1 → ((((((w11.setCell ⟨w3.heap.size, 4, none⟩ (.slice a11 (tidy s'.wh).length c11)).setCell ⟨w.heap.size + 1, 0, none⟩ (.slice ap3 s'.params.length cp3)).setCell ⟨w.heap.size + 1, 1, none⟩ (.string s'.result.elem)).setCell ⟨w.heap.size + 1, 2, none⟩ (.string s'.result.shape.row)).setCell ⟨w.heap.size + 1, 3, none⟩ (.slice at3 s'.result.shape.dims.length ct3)).setCell ⟨w.heap.size + 1, 4, none⟩ (.slice a11 (tidy s'.wh).length c11)).heap[q]? = w11.heap[q]? := fun q h1 h2 => (heap_set_ne (fun e => h2 e.symm)).trans ((heap_set_ne (fun e => h2 e.symm)).trans ((heap_set_ne (fun e => h2 e.symm)).trans ((heap_set_ne (fun e => h2 e.symm)).trans ((heap_set_ne (fun e => h2 e.symm)).trans (heap_set_ne (fun e => h1 e.symm))))))
          have hFp : ∀ q, (wr.heap.size ≤ q ∧ q < base) → q < w3.heap.size → ((((((w11.setCell ⟨w3.heap.size, 4, none⟩ (.slice a11 (tidy s'.wh).length c11)).setCell ⟨w.heap.size + 1, 0, none⟩ (.slice ap3 s'.params.length cp3)).setCell ⟨w.heap.size + 1, 1, none⟩ (.string s'.result.elem)).setCell ⟨w.heap.size + 1, 2, none⟩ (.string s'.result.shape.row)).setCell ⟨w.heap.size + 1, 3, none⟩ (.slice at3 s'.result.shape.dims.length ct3)).setCell ⟨w.heap.size + 1, 4, none⟩ (.slice a11 (tidy s'.wh).length c11)).heap[q]? = w3.heap[q]? := fun q h1 h2 => (hF q (by omega) (by omega)).trans ((HK11.out q (by omega) (by omega) (fun e => by have := (HOB.out q e).1; omega)).trans (HB7.out.block q h2))
          refine ⟨⟨[.slice ap3 s'.params.length cp3, .string s'.result.elem, .string s'.result.shape.row, .slice at3 s'.result.shape.dims.length ct3, .slice a11 (tidy s'.wh).length c11], by rw [HG0.out], ?_⟩, ?_⟩
          · rw [HSp.out]
            obtain ⟨a12, c12, e12, hs12⟩ := HO11.out.sl; rw [Value.slice.injEq] at e12; obtain ⟨rfl, -, rfl⟩ := e12
            refine ⟨_, _, _, rfl, ⟨ap3, cp3, rfl, (HPs.out.frame hFp).mono (fun k hk _ => by omega)⟩, ⟨at3, ct3, rfl, (HTs.out.frame hFp).mono (fun k hk _ => by omega)⟩, ⟨a11, c11, rfl, ?_⟩⟩
            obtain ⟨a13, c13, e13, hs13, _⟩ := HO11.out.slAt; rw [Value.slice.injEq] at e13; obtain ⟨rfl, -, rfl⟩ := e13
            have hA : ∀ k, At a11 k → wr.heap.size ≤ k ∧ k ≠ w3.heap.size := fun k hk => ⟨HO11.out.base_le k (at_own hk), fun e => HN11.out (by rw [← e]; exact at_own hk)⟩
            exact (hs13.frame (fun k hk _ => hF k (by rcases hk with hk | hk; exact hk.2; exact (hA k hk).2) (by rcases hk with hk | hk; exact (by have := hk.1; omega); exact (by have := (hA k hk).1; omega)))).mono (fun k hk _ => by rcases hk with hk | hk; exact (by have := hk.1; omega); exact (by have := (hA k hk).1; omega))
          · have hB' := HW7.out.trans (HB11.out.mono (B' := w.heap.size) (by omega))
            exact (((((hB'.setCell (by show w.heap.size ≤ w3.heap.size; omega) _).setCell (by show w.heap.size ≤ w.heap.size + 1; omega) _).setCell (by show w.heap.size ≤ w.heap.size + 1; omega) _).setCell (by show w.heap.size ≤ w.heap.size + 1; omega) _).setCell (by show w.heap.size ≤ w.heap.size + 1; omega) _).setCell (by show w.heap.size ≤ w.heap.size + 1; omega) _
end Go.Proofs.YtjongcdlginjlaaGreatDoor
