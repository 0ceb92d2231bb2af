/- The claim's texts, part 9: contracts of the functions that the statement reaches, and what they say of the data. -/
import Derived.Test.YtjongcdlginjlaaGreatDoorPk8
set_option maxRecDepth 100000
set_option linter.all false
namespace Go.Proofs.YtjongcdlginjlaaGreatDoor
open Go.RowKit
def fine (x : Ent) : Prop := szS x.scheme ∧ x.name.size ≤ 281474976710656 ∧ (validSch x.scheme = true → x.scheme.wh.length ≤ 12)
theorem Raw.put5 {E : TypeId} {w : World} {g : Nat} {css : List (List Value)} {rest : List Value} (h : Raw 6 E w g css rest) {i : Nat} {c0 c1 c2 c3 c4 c5 : Value} (hi : css[i]? = some [c0, c1, c2, c3, c4, c5]) (v1 v2 v3 v4 v5 : Value) :
    Raw 6 E (((((w.setCell ⟨g, i * 6 + 1, none⟩ v1).setCell ⟨g, i * 6 + 2, none⟩ v2).setCell ⟨g, i * 6 + 3, none⟩ v3).setCell ⟨g, i * 6 + 4, none⟩ v4).setCell ⟨g, i * 6 + 5, none⟩ v5) g (css.set i [c0, v1, v2, v3, v4, v5]) rest := by
  have hl : i < css.length := by
    rcases Nat.lt_or_ge i css.length with q | q
    · exact q
    · rw [List.getElem?_eq_none q] at hi; cases hi
  have h1 : Raw 6 E _ g (css.set i [c0, v1, c2, c3, c4, c5]) rest := h.set hi (j := 1) (by decide) v1
  have h2 := h1.set (i := i) (cs := [c0, v1, c2, c3, c4, c5]) (List.getElem?_set_self hl) (j := 2) (by decide) v2
  rw [List.set_set] at h2
  have h3 := h2.set (i := i) (cs := [c0, v1, v2, c3, c4, c5]) (List.getElem?_set_self hl) (j := 3) (by decide) v3
  rw [List.set_set] at h3
  have h4 := h3.set (i := i) (cs := [c0, v1, v2, v3, c4, c5]) (List.getElem?_set_self hl) (j := 4) (by decide) v4
  rw [List.set_set] at h4
  have h5 := h4.set (i := i) (cs := [c0, v1, v2, v3, v4, c5]) (List.getElem?_set_self hl) (j := 5) (by decide) v5
  rw [List.set_set] at h5
  exact h5
theorem heap_set5 {w : World} {g o1 o2 o3 o4 o5 : Nat} {v1 v2 v3 v4 v5 : Value} {q : Nat} (hq : q ≠ g) : (((((w.setCell ⟨g, o1, none⟩ v1).setCell ⟨g, o2, none⟩ v2).setCell ⟨g, o3, none⟩ v3).setCell ⟨g, o4, none⟩ v4).setCell ⟨g, o5, none⟩ v5).heap[q]? = w.heap[q]? :=
  (heap_set_ne (fun e => hq e.symm)).trans ((heap_set_ne (fun e => hq e.symm)).trans ((heap_set_ne (fun e => hq e.symm)).trans ((heap_set_ne (fun e => hq e.symm)).trans (heap_set_ne (fun e => hq e.symm)))))
theorem below_set5 {w0 w : World} {B g o1 o2 o3 o4 o5 : Nat} {v1 v2 v3 v4 v5 : Value} (h : Below B w0 w) (hg : B ≤ g) : Below B w0 (((((w.setCell ⟨g, o1, none⟩ v1).setCell ⟨g, o2, none⟩ v2).setCell ⟨g, o3, none⟩ v3).setCell ⟨g, o4, none⟩ v4).setCell ⟨g, o5, none⟩ v5) :=
  ((((h.setCell hg _).setCell hg _).setCell hg _).setCell hg _).setCell hg _
theorem own_put5 {S : Blk} {W : World} {base g c n k : Nat} {E : TypeId} {css : List (List Value)} {rest : List Value} {l : List Ent} {x : Ent} {y : Sch} {c0 c1 c2 c3 c4 c5 v1 v2 v3 v4 v5 : Value} (hR : Raw 6 E W g css rest) (hL : Lies REnt S W g css l) (hi : css[k]? = some [c0, c1, c2, c3, c4, c5]) (h0 : c0 = .string x.name) (hg : base ≤ g) (hn : n ≤ c) (hm : c ≤ maxLen) (hsz : css.length * 6 + rest.length = c * 6) (hln : l.length = n)
    (hr : RSch.rd (fun q => S q ∧ q ≠ g) W [v1, v2, v3, v4, v5] y) :
    Own REnt E S (((((W.setCell ⟨g, k * 6 + 1, none⟩ v1).setCell ⟨g, k * 6 + 2, none⟩ v2).setCell ⟨g, k * 6 + 3, none⟩ v3).setCell ⟨g, k * 6 + 4, none⟩ v4).setCell ⟨g, k * 6 + 5, none⟩ v5) base (.slice (some ⟨g, 0, none⟩) n c) (l.set k ⟨x.name, y⟩) := by
  have hR2 := hR.put5 hi v1 v2 v3 v4 v5
  have hL2 : Lies REnt S (((((W.setCell ⟨g, k * 6 + 1, none⟩ v1).setCell ⟨g, k * 6 + 2, none⟩ v2).setCell ⟨g, k * 6 + 3, none⟩ v3).setCell ⟨g, k * 6 + 4, none⟩ v4).setCell ⟨g, k * 6 + 5, none⟩ v5) g css l := hL.frame (fun q _ hne _ => heap_set5 hne)
  have hL3 := hL2.set k (cs := [c0, v1, v2, v3, v4, v5]) (y := ⟨x.name, y⟩) ⟨_, by rw [h0], (RSch.frame hr (fun q hq _ => heap_set5 hq.2))⟩
  have := Raw.own (R := REnt) (S := S) (base := base) (c := c) hR2 hL3 hg (by rw [List.length_set, hln]; exact hn) hm (by rw [List.length_set]; exact hsz)
  rwa [List.length_set, hln] at this
set_option maxHeartbeats 2000000 in
theorem signature_Make {S : Blk} {w : World} {mod : Str} {l : List Ent} {a : Option Addr} {n c : Nat} (h : Sl REnt S w a n c l) (hf : Fit w a) (hn : l.length ≤ 12) (hfine : ∀ x ∈ l, fine x) (hmz : mod.size ≤ 281474976710656) (E : Env w) :
    Calls Tryz.prog 7 #[.string mod, .slice a n c] w fun e w' => (∃ (A : Ifc) (ev : Int) (a' : Option Addr) (c' : Nat), e = .returned (.tuple #[.agg #[.string A.module_, .slice a' A.entries.length c'], .int .i64 ev]) ∧ Says mod l A ev ∧ Sl REnt (Fr S w) w' a' A.entries.length c' A.entries) ∧ Below w.heap.size w w' := by
  obtain ⟨zs, hz, hI, hr⟩ := h.e6 hf
  have hlz : zs.length = l.length := by rw [← hz, List.length_map]
  have hnl : n = l.length := h.len.symm
  have HE : Hid (∀ W, Below w.heap.size w W → Env W) := Lib.hid (fun W hW => E.below hW)
  obtain ⟨W0, hW0⟩ : ∃ W0, w.alloc (.cells #[.string ⟨#[]⟩, .slice none 0 0] 29) = W0 := ⟨_, rfl⟩
  have hB0 : Below w.heap.size w W0 := by rw [← hW0]; exact (Below.refl _ _).alloc (Nat.le_refl _) _
  have hR0 : Bx W0 w.heap.size 29 [.string ⟨#[]⟩, .slice none 0 0] := by rw [← hW0]; exact Bx.fresh w _ [.string ⟨#[]⟩, .slice none 0 0]
  have hs0 : W0.heap.size = w.heap.size + 1 := by rw [← hW0]; simp
  obtain ⟨W1, hW1⟩ : ∃ W1, W0.alloc (.cells #[.slice a n c] 27) = W1 := ⟨_, rfl⟩
  have hB1 : Below W0.heap.size W0 W1 := by rw [← hW1]; exact (Below.refl _ _).alloc (Nat.le_refl _) _
  have hc1 : W1.cell? ⟨W0.heap.size, 0, none⟩ = some (.slice a n c) := by rw [← hW1]; exact (Bx.fresh W0 27 [.slice a n c]).cell 0 _ rfl
  have hs1 : W1.heap.size = w.heap.size + 2 := by rw [← hW1]; simp [hs0]
  have hB01 : Below w.heap.size w W1 := hB0.trans (hB1.mono (by omega))
  have HV := Lib.hid (values_Ent a n c W0); rw [hW1] at HV
  have HS := Lib.hid (sortedStable_Ent (S := fun k => S k ∧ k < w.heap.size) (w := W1) (.slice a n c) zs (by omega) W0.heap.size (by omega) hc1 ((hI.below hB01).lift (by omega)) (fun z hz => REnt.below (REnt.mono (hr z hz) (fun k hs hk => ⟨hs, hk⟩)) hB01))
  have HR1 : Hid (Bx W1 w.heap.size _ _) := Lib.hid (hR0.below hB1 (by omega))
  have HB1 := Lib.hid hB01; rw [hz] at HS; have HF := Lib.hid hfine
  have HL : Hid (l.length = n) := Lib.hid hnl.symm
  have hn12 : n ≤ 12 := by omega
  have HPm : Hid (∀ m : List Ent, m.Perm l → m.length = n) := Lib.hid (fun m hp => by rw [hp.length_eq]; exact hnl.symm)
  have HZ0 := Lib.hid hs0; have HZ1 := Lib.hid hs1; clear h hf hI hr hz hlz hnl hn hfine E hc1 hB0 hB1 hB01 hR0 hs0 hs1
  go_enter Tryz.func7, Tryz.ntmps7
  go_wp2_with fail
  refine HV.out.mono ?_
  rintro e _ ⟨rfl, rfl⟩
  go_wp2_with fail
  refine HS.out.mono ?_
  rintro e w2 ⟨⟨v, rfl, m, hp, hle, ho⟩, hb2⟩
  clear hW0 hW1 HV HS; have hs0 := HZ0.out; have hs1 := HZ1.out; have hml := HPm.out m hp; obtain ⟨av, cv, hv, _⟩ := ho.sl; rw [hml] at hv; subst hv; have HP := Lib.hid hp; have HLe := Lib.hid hle; have hz2 := hb2.size
  have HG : Hid ((Value.slice av n cv).ownBlock ≠ some w2.heap.size) := Lib.hid (fun e => by have := (ho.block e).2; omega)
  have HO2 : Hid (Own REnt 43 (fun q => (S q ∨ w.heap.size ≤ q) ∧ q ≠ w.heap.size ∧ q ≠ w2.heap.size) w2 (w.heap.size + 2) (.slice av n cv) m) := Lib.hid ((ho.mono (fun q hq _ => ⟨.inl hq.1.1, by have := hq.1.2; omega, by have := hq.1.2; have := hb2.size; omega⟩)).lower (by omega))
  have HR2 := Lib.hid (HR1.out.below hb2 (by omega))
  have HB2 : Hid (Below w.heap.size w w2) := Lib.hid (HB1.out.trans (hb2.mono (by omega)))
  have HFm : Hid (∀ x ∈ m, fine x) := Lib.hid (fun x hx => HF.out x (hp.mem_iff.1 hx))
  have HML := Lib.hid hml
  have hzs : w.heap.size + 2 ≤ w2.heap.size := by omega
  clear hp hle ho hb2 hml HR1 HB1 hs0 hs1 hz2; obtain ⟨W3, hW3⟩ : ∃ W3, w2.alloc (.cells #[.string mod, .slice av n cv] 29) = W3 := ⟨_, rfl⟩
  have HB3 : Hid (Below w2.heap.size w2 W3) := Lib.hid (by rw [← hW3]; exact (Below.refl _ _).alloc (Nat.le_refl _) _)
  have HX3 : Hid (Bx W3 w2.heap.size 29 [.string mod, .slice av n cv]) := Lib.hid (by rw [← hW3]; exact Bx.fresh _ _ _)
  have hz3 : W3.heap.size = w2.heap.size + 1 := by rw [← hW3]; simp
  have HR3 := Lib.hid (HR2.out.below HB3.out (by omega))
  have HO3 := Lib.hid (HO2.out.below HB3.out)
  have HBa := Lib.hid (HB2.out.trans (HB3.out.mono (by omega)))
  have x0 := HX3.out.cell 0 _ rfl; have x1 := HX3.out.cell 1 _ rfl
  go_wp2_with fail
  refine (lexer_IsName mod _ hmz).mono ?_
  rintro e _ ⟨rfl, rfl⟩
  clear hW3
  go_wp2_with fail
  go_loopw [7, 24] (fun okv i wr => ∃ k : Nat, k ≤ n ∧ i = .int .i64 k ∧ okv = .bool (okK mod m k) ∧ Hid (Own REnt 43 (fun q => (S q ∨ w.heap.size ≤ q) ∧ q ≠ w.heap.size ∧ q ≠ w2.heap.size) wr (w.heap.size + 2) (.slice av n cv) (canUp m k)) ∧ Hid (Bx wr w2.heap.size 29 [.string mod, .slice av n cv]) ∧ Hid (Bx wr w.heap.size 29 [.string ⟨#[]⟩, .slice none 0 0]) ∧ Below w.heap.size w wr ∧ W3.heap.size ≤ wr.heap.size) (fun _ i _ => n - (intOf i).toNat)
  case atStart => exact ⟨0, Nat.zero_le _, rfl, by rw [okK_zero], by rw [canUp_zero]; exact HO3, HX3, HR3, HBa.out, Nat.le_refl _⟩
  case round =>
    obtain ⟨k, hk, rfl, rfl, HO, HX, HR, hB, hsz⟩ := hrel; clear x0 x1; have x0 := HX.out.cell 0 _ rfl; have x1 := HX.out.cell 1 _ rfl
    by_cases hlt : k < n
    · have hkm : k < m.length := by rw [HML.out]; exact hlt
      obtain ⟨g, c', css, rest, hv, hg, hR, hL, hlc, hcm, hsl⟩ := HO.out.raw (by rw [canUp_len]; omega)
      rw [Value.slice.injEq] at hv; obtain ⟨rfl, -, rfl⟩ := hv; rw [canUp_len, HML.out] at hlc
      replace hR : Raw 6 43 wr g css rest := hR
      obtain ⟨cs, hi, hr⟩ := hL.2 k _ (canUp_at hkm); obtain ⟨⟨x, pa, pc, ta, tc, qa, qc⟩, hzx, rfl⟩ := E6.of hr
      replace hzx : x = m.getD k default := hzx
      have HFx := Lib.hid (HFm.out x (by rw [hzx]; exact getD_mem hkm))
      have HNext : Hid ((canUp m k).set k (canE x) = canUp m (k + 1)) := Lib.hid (by rw [hzx]; exact canUp_next hkm)
      have HOk : Hid (okK mod m (k + 1) = (okK mod m k && (decide (canErr x.scheme = 0) && isNameB x.name))) := Lib.hid (by rw [okK_next hkm, hzx, goodE_err])
      replace hi : css[k]? = some [.string x.name, .slice pa x.scheme.params.length pc, .string x.scheme.result.elem, .string x.scheme.result.shape.row, .slice ta x.scheme.result.shape.dims.length tc, .slice qa x.scheme.wh.length qc] := hi
      rw [← hzx] at hr; obtain ⟨cs', e', hsch⟩ := hr
      replace e' : [.string x.name, .slice pa x.scheme.params.length pc, .string x.scheme.result.elem, .string x.scheme.result.shape.row, .slice ta x.scheme.result.shape.dims.length tc, .slice qa x.scheme.wh.length qc] = .string x.name :: cs' := e'
      cases e'
      have HCan := Lib.hid (fun (W : World) (hW : Below wr.heap.size wr W) => types_Canonical (RSch.below hsch hW) HFx.out.1 HFx.out.2.2 (HE.out W (hB.trans (hW.mono hB.size))))
      have c0 := hR.cell hi 0 _ rfl; have c1 := hR.cell hi 1 _ rfl; have c2 := hR.cell hi 2 _ rfl; have c3 := hR.cell hi 3 _ rfl; have c4 := hR.cell hi 4 _ rfl; have c5 := hR.cell hi 5 _ rfl; rw [Nat.add_zero] at c0; have HRw := Lib.hid hR; have HLw := Lib.hid hL; have HI := Lib.hid hi
      have HGn : Hid (g ≠ w2.heap.size) := Lib.hid (fun e => HG.out (by rw [e]; rfl))
      have HWa : Hid (Below wr.heap.size wr (wr.alloc (.cells [.string x.name, .slice pa x.scheme.params.length pc, .string x.scheme.result.elem, .string x.scheme.result.shape.row, .slice ta x.scheme.result.shape.dims.length tc, .slice qa x.scheme.wh.length qc].toArray 43))) := Lib.hid ((Below.refl _ _).alloc (Nat.le_refl _) _)
      have hgl := hR.lt
      have HSl : Hid (css.length * 6 + rest.length = cv * 6) := Lib.hid hsl
      clear hzx hsch hR hL hi hsl
      go_wp2_with fail
      refine (HCan.out _ HWa.out).mono ?_
      rintro e w4 ⟨⟨ds, rfl, hds⟩, hb4⟩
      have HY : Hid (canE x = ⟨x.name, can x.scheme⟩) := Lib.hid rfl
      have HBq := Lib.hid (HWa.out.trans (hb4.mono HWa.out.size))
      have HE4 : Hid (Bx w4 wr.heap.size 43 [.string x.name, .slice pa x.scheme.params.length pc, .string x.scheme.result.elem, .string x.scheme.result.shape.row, .slice ta x.scheme.result.shape.dims.length tc, .slice qa x.scheme.wh.length qc]) := Lib.hid ((Bx.fresh wr 43 [.string x.name, .slice pa x.scheme.params.length pc, .string x.scheme.result.elem, .string x.scheme.result.shape.row, .slice ta x.scheme.result.shape.dims.length tc, .slice qa x.scheme.wh.length qc]).below hb4 (by simp))
      have hnz := HFx.out.2.1; clear HCan HWa HFx c0 c1 c2 c3 c4 c5 x0 x1 hb4
      generalize can x.scheme = y at *
      generalize canErr x.scheme = ce at *
      obtain ⟨_, _, _, rfl, ⟨p5, pc5, rfl, hp5⟩, ⟨t5, tc5, rfl, ht5⟩, ⟨q5, qc5, rfl, hq5⟩⟩ := hds; have hz4 := HBq.out.size
      have hgl4 : g < w4.heap.size := by omega
      have HR4 := Lib.hid (HRw.out.below HBq.out hgl); have HX4 := Lib.hid (HX.out.below HBq.out HX.out.lt); have HRz4 := Lib.hid (HR.out.below HBq.out HR.out.lt); have x0 := HX4.out.cell 0 _ rfl; have x1 := HX4.out.cell 1 _ rfl; have e0 := HE4.out.cell 0 _ rfl; have d1 := HR4.out.cell HI.out 1 _ rfl; have d2 := HR4.out.cell HI.out 2 _ rfl; have d3 := HR4.out.cell HI.out 3 _ rfl; have d4 := HR4.out.cell HI.out 4 _ rfl; have d5 := HR4.out.cell HI.out 5 _ rfl; have f1 := HR4.out.fz (k * 6 + 1); have f2 := HR4.out.fz (k * 6 + 2); have f3 := HR4.out.fz (k * 6 + 3); have f4 := HR4.out.fz (k * 6 + 4); have f5 := HR4.out.fz (k * 6 + 5)
      have hex : wr.heap.size < w4.heap.size := HE4.out.lt
      have hxl : w2.heap.size < w4.heap.size := HX4.out.lt
      have HOe : Own REnt 43 (fun q => (S q ∨ w.heap.size ≤ q) ∧ q ≠ w.heap.size ∧ q ≠ w2.heap.size) ((((((w4.setCell ⟨g, k * 6 + 1, none⟩ (.slice p5 y.params.length pc5)).setCell ⟨g, k * 6 + 1 + 1, none⟩ (.string y.result.elem)).setCell ⟨g, k * 6 + 1 + 2, none⟩ (.string y.result.shape.row)).setCell ⟨g, k * 6 + 1 + 3, none⟩ (.slice t5 y.result.shape.dims.length tc5)).setCell ⟨g, k * 6 + 1 + 4, none⟩ (.slice q5 y.wh.length qc5))) (w.heap.size + 2) (.slice (some ⟨g, 0, none⟩) n cv) (canUp m (k + 1)) := by
        rw [← HNext.out, HY.out]
        refine own_put5 HR4.out (HLw.out.below HBq.out) HI.out rfl hg hlc hcm HSl.out (by rw [canUp_len, HML.out]) ?_
        refine RSch.mono (S := fun q => (wr.alloc (.cells [.string x.name, .slice pa x.scheme.params.length pc, .string x.scheme.result.elem, .string x.scheme.result.shape.row, .slice ta x.scheme.result.shape.dims.length tc, .slice qa x.scheme.wh.length qc].toArray 43)).heap.size ≤ q) ⟨_, _, _, rfl, ⟨p5, pc5, rfl, hp5⟩, ⟨t5, tc5, rfl, ht5⟩, ⟨q5, qc5, rfl, hq5⟩⟩ (fun q hq hlt => ?_)
        simp at hq
        exact ⟨⟨.inr (by omega), by omega, by omega⟩, by omega⟩
      have HOd : Hid (Own REnt 43 (fun q => (S q ∨ w.heap.size ≤ q) ∧ q ≠ w.heap.size ∧ q ≠ w2.heap.size) (((((((w4.setCell ⟨g, k * 6 + 1, none⟩ (.slice p5 y.params.length pc5)).setCell ⟨g, k * 6 + 1 + 1, none⟩ (.string y.result.elem)).setCell ⟨g, k * 6 + 1 + 2, none⟩ (.string y.result.shape.row)).setCell ⟨g, k * 6 + 1 + 3, none⟩ (.slice t5 y.result.shape.dims.length tc5)).setCell ⟨g, k * 6 + 1 + 4, none⟩ (.slice q5 y.wh.length qc5))).alloc (.cells #[.slice p5 y.params.length pc5, .string y.result.elem, .string y.result.shape.row, .slice t5 y.result.shape.dims.length tc5, .slice q5 y.wh.length qc5] 41)) (w.heap.size + 2) (.slice (some ⟨g, 0, none⟩) n cv) (canUp m (k + 1))) := Lib.hid (HOe.alloc _)
      have HXe : Bx ((((((w4.setCell ⟨g, k * 6 + 1, none⟩ (.slice p5 y.params.length pc5)).setCell ⟨g, k * 6 + 1 + 1, none⟩ (.string y.result.elem)).setCell ⟨g, k * 6 + 1 + 2, none⟩ (.string y.result.shape.row)).setCell ⟨g, k * 6 + 1 + 3, none⟩ (.slice t5 y.result.shape.dims.length tc5)).setCell ⟨g, k * 6 + 1 + 4, none⟩ (.slice q5 y.wh.length qc5))) w2.heap.size 29 [.string mod, .slice (some ⟨g, 0, none⟩) n cv] := (heap_set5 (fun e => HGn.out e.symm)).trans HX4.out
      have HXd : Hid (Bx (((((((w4.setCell ⟨g, k * 6 + 1, none⟩ (.slice p5 y.params.length pc5)).setCell ⟨g, k * 6 + 1 + 1, none⟩ (.string y.result.elem)).setCell ⟨g, k * 6 + 1 + 2, none⟩ (.string y.result.shape.row)).setCell ⟨g, k * 6 + 1 + 3, none⟩ (.slice t5 y.result.shape.dims.length tc5)).setCell ⟨g, k * 6 + 1 + 4, none⟩ (.slice q5 y.wh.length qc5))).alloc (.cells #[.slice p5 y.params.length pc5, .string y.result.elem, .string y.result.shape.row, .slice t5 y.result.shape.dims.length tc5, .slice q5 y.wh.length qc5] 41)) w2.heap.size 29 [.string mod, .slice (some ⟨g, 0, none⟩) n cv]) := Lib.hid (HXe.alloc _)
      have HRe : Bx ((((((w4.setCell ⟨g, k * 6 + 1, none⟩ (.slice p5 y.params.length pc5)).setCell ⟨g, k * 6 + 1 + 1, none⟩ (.string y.result.elem)).setCell ⟨g, k * 6 + 1 + 2, none⟩ (.string y.result.shape.row)).setCell ⟨g, k * 6 + 1 + 3, none⟩ (.slice t5 y.result.shape.dims.length tc5)).setCell ⟨g, k * 6 + 1 + 4, none⟩ (.slice q5 y.wh.length qc5))) w.heap.size 29 [.string ⟨#[]⟩, .slice none 0 0] := (heap_set5 (fun e => by omega)).trans HRz4.out
      have HRd : Hid (Bx (((((((w4.setCell ⟨g, k * 6 + 1, none⟩ (.slice p5 y.params.length pc5)).setCell ⟨g, k * 6 + 1 + 1, none⟩ (.string y.result.elem)).setCell ⟨g, k * 6 + 1 + 2, none⟩ (.string y.result.shape.row)).setCell ⟨g, k * 6 + 1 + 3, none⟩ (.slice t5 y.result.shape.dims.length tc5)).setCell ⟨g, k * 6 + 1 + 4, none⟩ (.slice q5 y.wh.length qc5))).alloc (.cells #[.slice p5 y.params.length pc5, .string y.result.elem, .string y.result.shape.row, .slice t5 y.result.shape.dims.length tc5, .slice q5 y.wh.length qc5] 41)) w.heap.size 29 [.string ⟨#[]⟩, .slice none 0 0]) := Lib.hid (HRe.alloc _)
      have HBe : Below w.heap.size w ((((((w4.setCell ⟨g, k * 6 + 1, none⟩ (.slice p5 y.params.length pc5)).setCell ⟨g, k * 6 + 1 + 1, none⟩ (.string y.result.elem)).setCell ⟨g, k * 6 + 1 + 2, none⟩ (.string y.result.shape.row)).setCell ⟨g, k * 6 + 1 + 3, none⟩ (.slice t5 y.result.shape.dims.length tc5)).setCell ⟨g, k * 6 + 1 + 4, none⟩ (.slice q5 y.wh.length qc5))) := below_set5 (hB.trans (HBq.out.mono hB.size)) (by omega)
      have HBd : Hid (Below w.heap.size w (((((((w4.setCell ⟨g, k * 6 + 1, none⟩ (.slice p5 y.params.length pc5)).setCell ⟨g, k * 6 + 1 + 1, none⟩ (.string y.result.elem)).setCell ⟨g, k * 6 + 1 + 2, none⟩ (.string y.result.shape.row)).setCell ⟨g, k * 6 + 1 + 3, none⟩ (.slice t5 y.result.shape.dims.length tc5)).setCell ⟨g, k * 6 + 1 + 4, none⟩ (.slice q5 y.wh.length qc5))).alloc (.cells #[.slice p5 y.params.length pc5, .string y.result.elem, .string y.result.shape.row, .slice t5 y.result.shape.dims.length tc5, .slice q5 y.wh.length qc5] 41))) := Lib.hid (HBe.alloc HBe.size _)
      have hzd : W3.heap.size ≤ ((((((((w4.setCell ⟨g, k * 6 + 1, none⟩ (.slice p5 y.params.length pc5)).setCell ⟨g, k * 6 + 1 + 1, none⟩ (.string y.result.elem)).setCell ⟨g, k * 6 + 1 + 2, none⟩ (.string y.result.shape.row)).setCell ⟨g, k * 6 + 1 + 3, none⟩ (.slice t5 y.result.shape.dims.length tc5)).setCell ⟨g, k * 6 + 1 + 4, none⟩ (.slice q5 y.wh.length qc5))).alloc (.cells #[.slice p5 y.params.length pc5, .string y.result.elem, .string y.result.shape.row, .slice t5 y.result.shape.dims.length tc5, .slice q5 y.wh.length qc5] 41))).heap.size := by simp; omega
      clear HOe HXe HRe HBe; clear hp5 ht5 hq5
      generalize okK mod m k = ok at *
      cases ok with
      | false =>
        go_wp2_with fail
        go_roundw
        case rel => exact ⟨k + 1, by omega, by go_num, by rw [HOk.out]; rfl, HOd, HXd, HRd, HBd.out, hzd⟩
        case measure => simp [intOf]; omega
      | true =>
        by_cases hce : ce = 0
        · subst hce
          go_wp2_with fail
          refine (lexer_IsName x.name _ hnz).mono ?_
          rintro e _ ⟨rfl, rfl⟩
          go_wp2_with fail
          go_roundw
          case rel => exact ⟨k + 1, by omega, by go_num, by rw [HOk.out]; simp, HOd, HXd, HRd, HBd.out, hzd⟩
          case measure => simp [intOf]; omega
        · have hc2 : (ce == 0) = false := beq_eq_false_iff_ne.2 hce
          have hc3 : decide (ce = 0) = false := decide_eq_false hce
          go_wp2_with fail
          go_roundw
          case rel => exact ⟨k + 1, by omega, by go_num, by rw [HOk.out, hc3]; rfl, HOd, HXd, HRd, HBd.out, hzd⟩
          case measure => simp [intOf]; omega
    · obtain rfl : k = n := by omega
      have HCn : Hid (canUp m k = m.map canE) := Lib.hid (by rw [← HML.out]; exact canUp_all m)
      rw [HCn.out] at HO
      have HSb : Hid (okK mod m k = false → Says mod l noIfc 1) := Lib.hid (fun q => says_bad HP.out (by rw [HML.out]; exact q))
      have HSt : Hid (okK mod m k = true → ∀ j, 0 < j → j < k → (m.getD (j - 1) default).name = (m.getD j default).name → Says mod l noIfc 8) := Lib.hid (fun q j h0 h1 he => says_twice HP.out (by rw [HML.out]; exact q) h0 (by rw [HML.out]; exact h1) he)
      have HSd : Hid (okK mod m k = true → (∀ j, 0 < j → j < k → (m.getD (j - 1) default).name ≠ (m.getD j default).name) → Says mod l ⟨mod, m.map canE⟩ 0) := Lib.hid (fun q hh => says_done HP.out (by rw [HML.out]; exact q) HLe.out (fun j h0 h1 => hh j h0 (by rw [HML.out] at h1; exact h1)))
      generalize okK mod m k = ok at *
      cases ok with
      | false =>
        have z0 := HR.out.cell 0 _ rfl; have z1 := HR.out.cell 1 _ rfl; have f0 := HR.out.fz 0; have f1 := HR.out.fz 1; have hl0 := HR.out.lt; have HZz := Lib.hid ((HR.out.set 0 (.string ⟨#[]⟩)).set 1 (.slice none 0 0)); have s0 := HZz.out.cell 0 _ rfl; have s1 := HZz.out.cell 1 _ rfl
        go_wp2_with fail
        refine bodyPost_ret (v := .tuple #[.agg #[.string ⟨#[]⟩, .slice none 0 0], .int .i64 1]) (by simp [results, Tryz.results7, go_sem, s0, s1, hl0]) rfl ?_
        exact ⟨⟨noIfc, 1, none, 0, rfl, HSb.out (by simp), Sl.empty _ _ _⟩, (hB.setCell (Nat.le_refl _) _).setCell (Nat.le_refl _) _⟩
      | true =>
        go_wp2_with fail
        go_loopw [58] (fun i wq => ∃ j : Nat, j ≤ k ∧ i = .int .i64 j ∧ Hid (∀ q, 0 < q → q < j → (m.getD (q - 1) default).name ≠ (m.getD q default).name) ∧ Below wr.heap.size wr wq) (fun i _ => k - (intOf i).toNat)
        case atStart => exact ⟨0, Nat.zero_le _, rfl, Lib.hid (fun q _ h => absurd h (by omega)), Below.refl _ _⟩
        case round =>
          obtain ⟨j, hj, rfl, HT, hB2⟩ := hrel; have HRq := Lib.hid (HR.out.below hB2 HR.out.lt); have HXq := Lib.hid (HX.out.below hB2 HX.out.lt); clear x0 x1; have hz2 := hB2.size
          by_cases hlt2 : j < k
          · have x1 := HXq.out.cell 1 _ rfl
            obtain ⟨g, c', hv, hg, hgl, hsl0, _⟩ := HO.out.open_ (by rw [List.length_map, HML.out]; omega)
            rw [Value.slice.injEq] at hv; obtain ⟨rfl, -, rfl⟩ := hv; have hsl := hsl0.below hB2; rw [List.length_map, HML.out] at hsl; obtain ⟨_, _, _, _, ⟨⟨ap, cp, rfl, _⟩, ⟨at_, ct, rfl, _⟩, ⟨aq, cq, rfl, _⟩⟩, c0, c1, c2, c3, c4, c5⟩ := hsl.ent j hlt2; rw [Nat.zero_add] at c0 c1 c2 c3 c4 c5; have HNm := Lib.hid (canE_name m j); have HSl := Lib.hid hsl
            have hgq : g < wr.heap.size := by omega
            clear hsl0 hsl
            generalize (m.map canE).getD j default = u at *
            have hBx := Bx.fresh wr 43 [.string u.name, .slice ap u.scheme.params.length cp, .string u.scheme.result.elem, .string u.scheme.result.shape.row, .slice at_ u.scheme.result.shape.dims.length ct, .slice aq u.scheme.wh.length cq]; have v0 := hBx.cell 0 _ rfl
            have hb2 : Below wr.heap.size wr (wr.alloc (.cells [.string u.name, .slice ap u.scheme.params.length cp, .string u.scheme.result.elem, .string u.scheme.result.shape.row, .slice at_ u.scheme.result.shape.dims.length ct, .slice aq u.scheme.wh.length cq].toArray 43)) := (Below.refl _ _).alloc (Nat.le_refl _) _
            have HBq := Lib.hid (hB2.trans (hb2.mono hz2)); have X1 := cellB x1 _ hb2; have HRq2 := Lib.hid (HRq.out.below hb2 HRq.out.lt); have HSl2 := Lib.hid (HSl.out.below hb2)
            go_wp2_with fail
            clear c0 c1 c2 c3 c4 c5 x1 hBx hb2
            generalize wr.alloc (.cells [.string u.name, .slice ap u.scheme.params.length cp, .string u.scheme.result.elem, .string u.scheme.result.shape.row, .slice at_ u.scheme.result.shape.dims.length ct, .slice aq u.scheme.wh.length cq].toArray 43) = w6 at *
            have v0 := Later.cell v0; have X1 := Later.cell X1
            cases j with
            | zero =>
              refine wp_region_later (by kernel_rfl) (by kernel_rfl) ?_
              repeat (go_big_quiet_step (fail))
              refine wpQuiet_nil ?_
              rintro _ ⟨t9, rfl⟩
              go_wp2_with fail
              go_roundw
              case rel => exact ⟨1, by omega, by go_num, Lib.hid (fun q h0 h1 => absurd h1 (by omega)), HBq.out.trans (t9.b.mono HBq.out.size)⟩
              case measure => simp [intOf]; omega
            | succ j =>
              obtain ⟨_, _, _, _, _, hp, _⟩ := HSl2.out.ent j (by omega)
              rw [Nat.zero_add] at hp; have hp := Later.cell hp; have HNp := Lib.hid (canE_name m j)
              have hk0 : (0 : Int) < ((j + 1 : Nat) : Int) := by omega
              have hki : (((j + 1 : Nat) : Int) - 1) = (j : Int) := by omega
              generalize (m.map canE).getD j default = u0 at *
              by_cases hn : (u0.name.toList == u.name.toList) = true
              · have hs8 := HSt.out (by simp) (j + 1) (by omega) hlt2 (by
                  rw [Nat.add_sub_cancel, ← HNp.out, ← HNm.out]
                  exact (seq_iff _ _).1 hn)
                have HS8 := Lib.hid hs8; clear hs8
                refine wp_region_later (by kernel_rfl) (by kernel_rfl) ?_
                repeat (go_big_quiet_step (fail))
                refine wpQuiet_nil ?_
                rintro _ ⟨t9, rfl⟩
                have HRz := Lib.hid (HRq2.out.below t9.b HRq2.out.lt); have z0 := HRz.out.cell 0 _ rfl; have z1 := HRz.out.cell 1 _ rfl; have f0 := HRz.out.fz 0; have f1 := HRz.out.fz 1; have hl0 := HRz.out.lt; have HZz := Lib.hid ((HRz.out.set 0 (.string ⟨#[]⟩)).set 1 (.slice none 0 0)); have s0 := HZz.out.cell 0 _ rfl; have s1 := HZz.out.cell 1 _ rfl
                go_wp2_with fail
                refine bodyPost_ret (v := .tuple #[.agg #[.string ⟨#[]⟩, .slice none 0 0], .int .i64 8]) (by simp [results, Tryz.results7, go_sem, s0, s1, hl0]) rfl ?_
                exact ⟨⟨noIfc, 8, none, 0, rfl, HS8.out, Sl.empty _ _ _⟩, (((hB.trans ((HBq.out.trans (t9.b.mono HBq.out.size)).mono hB.size))).setCell (Nat.le_refl _) _).setCell (Nat.le_refl _) _⟩
              · have hn : (u0.name.toList == u.name.toList) = false := by simpa using hn
                have HNe : Hid ((m.getD (j + 1 - 1) default).name ≠ (m.getD (j + 1) default).name) := Lib.hid (fun e => by
                  rw [Nat.add_sub_cancel, ← HNp.out, ← HNm.out] at e; rw [e] at hn
                  simp at hn)
                refine wp_region_later (by kernel_rfl) (by kernel_rfl) ?_
                repeat (go_big_quiet_step (fail))
                refine wpQuiet_nil ?_
                rintro _ ⟨t9, rfl⟩
                go_wp2_with fail
                have HT2 : Hid (∀ q, 0 < q → q < j + 1 + 1 → (m.getD (q - 1) default).name ≠ (m.getD q default).name) := Lib.hid (fun q h0 h1 => by
                  rcases Nat.lt_or_ge q (j + 1) with r | r
                  · exact HT.out q h0 r
                  · obtain rfl : q = j + 1 := by omega
                    exact HNe.out)
                go_roundw
                case rel => exact ⟨j + 1 + 1, by omega, by go_num, HT2, HBq.out.trans (t9.b.mono HBq.out.size)⟩
                case measure => simp [intOf]; omega
          · have HS0 := Lib.hid (HSd.out (by simp) (fun q h0 h1 => HT.out q h0 (by omega)))
            have hkm : (m.map canE).length = k := by rw [List.length_map, HML.out]
            obtain ⟨a3, c3, e3, hsl3, hat⟩ := HO.out.slAt; rw [hkm] at e3 hsl3; rw [Value.slice.injEq] at e3; obtain ⟨rfl, -, rfl⟩ := e3; have HSl3 := Lib.hid (hsl3.below hB2); have HAt := Lib.hid hat; have HKm := Lib.hid hkm; clear hsl3 hat hkm; have x0 := HXq.out.cell 0 _ rfl; have x1 := HXq.out.cell 1 _ rfl; have z0 := HRq.out.cell 0 _ rfl; have z1 := HRq.out.cell 1 _ rfl; have f0 := HRq.out.fz 0; have f1 := HRq.out.fz 1; have hl0 := HRq.out.lt
            have h60 : ¬((60 : Int) < (k : Int)) := by omega
            have HZz := Lib.hid ((HRq.out.set 0 (.string mod)).set 1 (.slice av k cv)); have s0 := HZz.out.cell 0 _ rfl; have s1 := HZz.out.cell 1 _ rfl
            go_wp2_with fail
            refine bodyPost_ret (v := .tuple #[.agg #[.string mod, .slice av k cv], .int .i64 0]) (by simp [results, Tryz.results7, go_sem, s0, s1, hl0]) rfl ?_
            refine ⟨⟨⟨mod, m.map canE⟩, 0, av, cv, ?_, HS0.out, ?_⟩, ((hB.trans (hB2.mono hB.size)).setCell (Nat.le_refl _) _).setCell (Nat.le_refl _) _⟩
            · show _ = Ending.returned (.tuple #[.agg #[.string mod, .slice av (m.map canE).length cv], .int .i64 0])
              rw [HKm.out]
            · show Sl REnt (Fr S w) _ av (m.map canE).length cv (m.map canE)
              rw [HKm.out]
              refine (HSl3.out.frame (fun q hq _ => ?_)).mono (fun q hq _ => ?_)
              · have hne : q ≠ w.heap.size := by
                  rcases hq with hq | hq
                  · exact hq.2.1
                  · have := (HAt.out q hq).1; omega
                exact (heap_set_ne (fun e => hne e.symm)).trans (heap_set_ne (fun e => hne e.symm))
              · rcases hq with hq | hq
                · exact hq.1
                · exact .inr (by have := (HAt.out q hq).1; omega)
end Go.Proofs.YtjongcdlginjlaaGreatDoor
namespace Go.Proofs.YtjongcdlginjlaaGreatDoor
open Go.RowKit
theorem eqList_len {α : Type} [Inhabited α] {p : α → α → Bool} {l l2 : List α} (h : l.length ≠ l2.length) : eqList p l l2 = false := by
  unfold eqList
  rw [show (l.length == l2.length) = false from beq_eq_false_iff_ne.2 h]; rfl
theorem eqList_bad {α : Type} [Inhabited α] {p : α → α → Bool} {l l2 : List α} {k : Nat} (hk : k < l.length) (h : p (l.getD k default) (l2.getD k default) = false) : eqList p l l2 = false := by
  unfold eqList
  rw [all_stop hk h, Bool.and_false]
theorem eqList_good {α : Type} [Inhabited α] {p : α → α → Bool} {l l2 : List α} (hl : l.length = l2.length) (h : ∀ j, j < l.length → p (l.getD j default) (l2.getD j default) = true) : eqList p l l2 = true := by
  unfold eqList
  rw [show (l.length == l2.length) = true from beq_iff_eq.2 hl, all_done h]; rfl
theorem allT_len (x : Sch) : (allT x).length = x.params.length + 1 := by unfold allT; rw [List.length_append]; rfl
theorem eqSch_all (x y : Sch) : eqSch x y = (eqList eqTyp (allT x) (allT y) && eqList eqLin x.wh y.wh) := by
  rw [Bool.eq_iff_iff, eqSch_iff, Bool.and_eq_true, eqList_iff _ eqTyp_iff, eqList_iff _ eqLin_iff]
  unfold allT
  constructor
  · rintro rfl; exact ⟨rfl, rfl⟩
  · rintro ⟨h1, h2⟩
    have := List.append_inj' h1 rfl
    cases x; cases y
    simp_all
set_option maxHeartbeats 2000000 in
theorem ref12_EqualScheme {S T : Blk} {x y : Sch} {cs ds : List Value} {w : World} (h : RSch.rd S w cs x) (h2 : RSch.rd T w ds y) (hnx : x.params.length ≤ 1000000) (hny : y.params.length ≤ 1000000) :
    Calls Tryz.prog 10 #[.agg cs.toArray, .agg ds.toArray] w fun e w' => e = .returned (.bool (eqSch x y)) ∧ Below w.heap.size w w' := by
  have HCX : Hid (∀ W, Below w.heap.size w W → Calls Tryz.prog 33 #[.agg cs.toArray] W fun e w' => (∃ v, e = .returned v ∧ Own RTyp 39 S w' W.heap.size v (allT x)) ∧ Below W.heap.size W w') :=
    Lib.hid (fun W hW => ref12_all (RSch.below h hW) hnx)
  have HCY : Hid (∀ W, Below w.heap.size w W → Calls Tryz.prog 33 #[.agg ds.toArray] W fun e w' => (∃ v, e = .returned v ∧ Own RTyp 39 T w' W.heap.size v (allT y)) ∧ Below W.heap.size W w') :=
    Lib.hid (fun W hW => ref12_all (RSch.below h2 hW) hny)
  obtain ⟨_, _, _, rfl, ⟨ap, cp, rfl, hp⟩, ⟨at_, ct, rfl, ht⟩, ⟨aq, cq, rfl, hq⟩⟩ := h; obtain ⟨_, _, _, rfl, ⟨ap2, cp2, rfl, hp2⟩, ⟨at2, ct2, rfl, ht2⟩, ⟨aq2, cq2, rfl, hq2⟩⟩ := h2; have HQ0 := Lib.hid hq; have HQ20 := Lib.hid hq2; have hm := hq.small; have hm2 := hq2.small; clear hp ht hq hp2 ht2 hq2; have HN := Lib.hid (eqSch_all x y); have HAX := Lib.hid (allT_len x); have HAY := Lib.hid (allT_len y)
  generalize hn1 : x.params.length = n at *
  generalize hn2 : y.params.length = n2 at *
  generalize hl1 : x.wh.length = m at *
  generalize hl2 : y.wh.length = m2 at *
  have HL1 := Lib.hid hl1; have HL2 := Lib.hid hl2; clear hn1 hn2 hl1 hl2
  by_cases hd : n = n2
  case neg =>
    have B0 : Hid (Below w.heap.size w ((w.alloc (.cells #[.slice ap n cp, .string x.result.elem, .string x.result.shape.row, .slice at_ x.result.shape.dims.length ct, .slice aq m cq] 41)).alloc (.cells #[.slice ap2 n2 cp2, .string y.result.elem, .string y.result.shape.row, .slice at2 y.result.shape.dims.length ct2, .slice aq2 m2 cq2] 41))) := Lib.hid (((Below.refl _ _).alloc (by simp <;> omega) _).alloc (by simp <;> omega) _)
    have xa0 : ((w.alloc (.cells #[.slice ap n cp, .string x.result.elem, .string x.result.shape.row, .slice at_ x.result.shape.dims.length ct, .slice aq m cq] 41)).alloc (.cells #[.slice ap2 n2 cp2, .string y.result.elem, .string y.result.shape.row, .slice at2 y.result.shape.dims.length ct2, .slice aq2 m2 cq2] 41)).cell? ⟨w.heap.size, 0, none⟩ = some (.slice ap n cp) := by simp [go_sem]
    have xa1 : ((w.alloc (.cells #[.slice ap n cp, .string x.result.elem, .string x.result.shape.row, .slice at_ x.result.shape.dims.length ct, .slice aq m cq] 41)).alloc (.cells #[.slice ap2 n2 cp2, .string y.result.elem, .string y.result.shape.row, .slice at2 y.result.shape.dims.length ct2, .slice aq2 m2 cq2] 41)).cell? ⟨w.heap.size, 1, none⟩ = some (.string x.result.elem) := by simp [go_sem]
    have xa2 : ((w.alloc (.cells #[.slice ap n cp, .string x.result.elem, .string x.result.shape.row, .slice at_ x.result.shape.dims.length ct, .slice aq m cq] 41)).alloc (.cells #[.slice ap2 n2 cp2, .string y.result.elem, .string y.result.shape.row, .slice at2 y.result.shape.dims.length ct2, .slice aq2 m2 cq2] 41)).cell? ⟨w.heap.size, 2, none⟩ = some (.string x.result.shape.row) := by simp [go_sem]
    have xa3 : ((w.alloc (.cells #[.slice ap n cp, .string x.result.elem, .string x.result.shape.row, .slice at_ x.result.shape.dims.length ct, .slice aq m cq] 41)).alloc (.cells #[.slice ap2 n2 cp2, .string y.result.elem, .string y.result.shape.row, .slice at2 y.result.shape.dims.length ct2, .slice aq2 m2 cq2] 41)).cell? ⟨w.heap.size, 3, none⟩ = some (.slice at_ x.result.shape.dims.length ct) := by simp [go_sem]
    have xa4 : ((w.alloc (.cells #[.slice ap n cp, .string x.result.elem, .string x.result.shape.row, .slice at_ x.result.shape.dims.length ct, .slice aq m cq] 41)).alloc (.cells #[.slice ap2 n2 cp2, .string y.result.elem, .string y.result.shape.row, .slice at2 y.result.shape.dims.length ct2, .slice aq2 m2 cq2] 41)).cell? ⟨w.heap.size, 4, none⟩ = some (.slice aq m cq) := by simp [go_sem]
    have xb0 : ((w.alloc (.cells #[.slice ap n cp, .string x.result.elem, .string x.result.shape.row, .slice at_ x.result.shape.dims.length ct, .slice aq m cq] 41)).alloc (.cells #[.slice ap2 n2 cp2, .string y.result.elem, .string y.result.shape.row, .slice at2 y.result.shape.dims.length ct2, .slice aq2 m2 cq2] 41)).cell? ⟨w.heap.size + 1, 0, none⟩ = some (.slice ap2 n2 cp2) := by simp [go_sem]
    have xb1 : ((w.alloc (.cells #[.slice ap n cp, .string x.result.elem, .string x.result.shape.row, .slice at_ x.result.shape.dims.length ct, .slice aq m cq] 41)).alloc (.cells #[.slice ap2 n2 cp2, .string y.result.elem, .string y.result.shape.row, .slice at2 y.result.shape.dims.length ct2, .slice aq2 m2 cq2] 41)).cell? ⟨w.heap.size + 1, 1, none⟩ = some (.string y.result.elem) := by simp [go_sem]
    have xb2 : ((w.alloc (.cells #[.slice ap n cp, .string x.result.elem, .string x.result.shape.row, .slice at_ x.result.shape.dims.length ct, .slice aq m cq] 41)).alloc (.cells #[.slice ap2 n2 cp2, .string y.result.elem, .string y.result.shape.row, .slice at2 y.result.shape.dims.length ct2, .slice aq2 m2 cq2] 41)).cell? ⟨w.heap.size + 1, 2, none⟩ = some (.string y.result.shape.row) := by simp [go_sem]
    have xb3 : ((w.alloc (.cells #[.slice ap n cp, .string x.result.elem, .string x.result.shape.row, .slice at_ x.result.shape.dims.length ct, .slice aq m cq] 41)).alloc (.cells #[.slice ap2 n2 cp2, .string y.result.elem, .string y.result.shape.row, .slice at2 y.result.shape.dims.length ct2, .slice aq2 m2 cq2] 41)).cell? ⟨w.heap.size + 1, 3, none⟩ = some (.slice at2 y.result.shape.dims.length ct2) := by simp [go_sem]
    have xb4 : ((w.alloc (.cells #[.slice ap n cp, .string x.result.elem, .string x.result.shape.row, .slice at_ x.result.shape.dims.length ct, .slice aq m cq] 41)).alloc (.cells #[.slice ap2 n2 cp2, .string y.result.elem, .string y.result.shape.row, .slice at2 y.result.shape.dims.length ct2, .slice aq2 m2 cq2] 41)).cell? ⟨w.heap.size + 1, 4, none⟩ = some (.slice aq2 m2 cq2) := by simp [go_sem]
    have hW0 : ((w.alloc (.cells #[.slice ap n cp, .string x.result.elem, .string x.result.shape.row, .slice at_ x.result.shape.dims.length ct, .slice aq m cq] 41)).alloc (.cells #[.slice ap2 n2 cp2, .string y.result.elem, .string y.result.shape.row, .slice at2 y.result.shape.dims.length ct2, .slice aq2 m2 cq2] 41)).heap.size = w.heap.size + 2 := by simp
    have q1 : ((n : Int) != (n2 : Int)) = true := bne_iff_ne.2 (by omega)
    have HF : Hid (eqSch x y = false) := Lib.hid (by rw [HN.out, eqList_len (by rw [HAX.out, HAY.out]; omega)]; rfl)
    go_enter Tryz.func10, Tryz.ntmps10
    go_wp2_with fail
    go_ret
    exact ⟨by rw [HF.out]; rfl, B0.out⟩
  subst hd
  by_cases hd2 : m = m2
  case neg =>
    have B0 : Hid (Below w.heap.size w ((w.alloc (.cells #[.slice ap n cp, .string x.result.elem, .string x.result.shape.row, .slice at_ x.result.shape.dims.length ct, .slice aq m cq] 41)).alloc (.cells #[.slice ap2 n cp2, .string y.result.elem, .string y.result.shape.row, .slice at2 y.result.shape.dims.length ct2, .slice aq2 m2 cq2] 41))) := Lib.hid (((Below.refl _ _).alloc (by simp <;> omega) _).alloc (by simp <;> omega) _)
    have xa0 : ((w.alloc (.cells #[.slice ap n cp, .string x.result.elem, .string x.result.shape.row, .slice at_ x.result.shape.dims.length ct, .slice aq m cq] 41)).alloc (.cells #[.slice ap2 n cp2, .string y.result.elem, .string y.result.shape.row, .slice at2 y.result.shape.dims.length ct2, .slice aq2 m2 cq2] 41)).cell? ⟨w.heap.size, 0, none⟩ = some (.slice ap n cp) := by simp [go_sem]
    have xa1 : ((w.alloc (.cells #[.slice ap n cp, .string x.result.elem, .string x.result.shape.row, .slice at_ x.result.shape.dims.length ct, .slice aq m cq] 41)).alloc (.cells #[.slice ap2 n cp2, .string y.result.elem, .string y.result.shape.row, .slice at2 y.result.shape.dims.length ct2, .slice aq2 m2 cq2] 41)).cell? ⟨w.heap.size, 1, none⟩ = some (.string x.result.elem) := by simp [go_sem]
    have xa2 : ((w.alloc (.cells #[.slice ap n cp, .string x.result.elem, .string x.result.shape.row, .slice at_ x.result.shape.dims.length ct, .slice aq m cq] 41)).alloc (.cells #[.slice ap2 n cp2, .string y.result.elem, .string y.result.shape.row, .slice at2 y.result.shape.dims.length ct2, .slice aq2 m2 cq2] 41)).cell? ⟨w.heap.size, 2, none⟩ = some (.string x.result.shape.row) := by simp [go_sem]
    have xa3 : ((w.alloc (.cells #[.slice ap n cp, .string x.result.elem, .string x.result.shape.row, .slice at_ x.result.shape.dims.length ct, .slice aq m cq] 41)).alloc (.cells #[.slice ap2 n cp2, .string y.result.elem, .string y.result.shape.row, .slice at2 y.result.shape.dims.length ct2, .slice aq2 m2 cq2] 41)).cell? ⟨w.heap.size, 3, none⟩ = some (.slice at_ x.result.shape.dims.length ct) := by simp [go_sem]
    have xa4 : ((w.alloc (.cells #[.slice ap n cp, .string x.result.elem, .string x.result.shape.row, .slice at_ x.result.shape.dims.length ct, .slice aq m cq] 41)).alloc (.cells #[.slice ap2 n cp2, .string y.result.elem, .string y.result.shape.row, .slice at2 y.result.shape.dims.length ct2, .slice aq2 m2 cq2] 41)).cell? ⟨w.heap.size, 4, none⟩ = some (.slice aq m cq) := by simp [go_sem]
    have xb0 : ((w.alloc (.cells #[.slice ap n cp, .string x.result.elem, .string x.result.shape.row, .slice at_ x.result.shape.dims.length ct, .slice aq m cq] 41)).alloc (.cells #[.slice ap2 n cp2, .string y.result.elem, .string y.result.shape.row, .slice at2 y.result.shape.dims.length ct2, .slice aq2 m2 cq2] 41)).cell? ⟨w.heap.size + 1, 0, none⟩ = some (.slice ap2 n cp2) := by simp [go_sem]
    have xb1 : ((w.alloc (.cells #[.slice ap n cp, .string x.result.elem, .string x.result.shape.row, .slice at_ x.result.shape.dims.length ct, .slice aq m cq] 41)).alloc (.cells #[.slice ap2 n cp2, .string y.result.elem, .string y.result.shape.row, .slice at2 y.result.shape.dims.length ct2, .slice aq2 m2 cq2] 41)).cell? ⟨w.heap.size + 1, 1, none⟩ = some (.string y.result.elem) := by simp [go_sem]
    have xb2 : ((w.alloc (.cells #[.slice ap n cp, .string x.result.elem, .string x.result.shape.row, .slice at_ x.result.shape.dims.length ct, .slice aq m cq] 41)).alloc (.cells #[.slice ap2 n cp2, .string y.result.elem, .string y.result.shape.row, .slice at2 y.result.shape.dims.length ct2, .slice aq2 m2 cq2] 41)).cell? ⟨w.heap.size + 1, 2, none⟩ = some (.string y.result.shape.row) := by simp [go_sem]
    have xb3 : ((w.alloc (.cells #[.slice ap n cp, .string x.result.elem, .string x.result.shape.row, .slice at_ x.result.shape.dims.length ct, .slice aq m cq] 41)).alloc (.cells #[.slice ap2 n cp2, .string y.result.elem, .string y.result.shape.row, .slice at2 y.result.shape.dims.length ct2, .slice aq2 m2 cq2] 41)).cell? ⟨w.heap.size + 1, 3, none⟩ = some (.slice at2 y.result.shape.dims.length ct2) := by simp [go_sem]
    have xb4 : ((w.alloc (.cells #[.slice ap n cp, .string x.result.elem, .string x.result.shape.row, .slice at_ x.result.shape.dims.length ct, .slice aq m cq] 41)).alloc (.cells #[.slice ap2 n cp2, .string y.result.elem, .string y.result.shape.row, .slice at2 y.result.shape.dims.length ct2, .slice aq2 m2 cq2] 41)).cell? ⟨w.heap.size + 1, 4, none⟩ = some (.slice aq2 m2 cq2) := by simp [go_sem]
    have hW0 : ((w.alloc (.cells #[.slice ap n cp, .string x.result.elem, .string x.result.shape.row, .slice at_ x.result.shape.dims.length ct, .slice aq m cq] 41)).alloc (.cells #[.slice ap2 n cp2, .string y.result.elem, .string y.result.shape.row, .slice at2 y.result.shape.dims.length ct2, .slice aq2 m2 cq2] 41)).heap.size = w.heap.size + 2 := by simp
    have q1 : ((n : Int) != (n : Int)) = false := by simp
    have q2 : ((m : Int) != (m2 : Int)) = true := bne_iff_ne.2 (by omega)
    have HF : Hid (eqSch x y = false) := Lib.hid (by rw [HN.out, eqList_len (p := eqLin) (by rw [HL1.out, HL2.out]; exact hd2), Bool.and_false])
    go_enter Tryz.func10, Tryz.ntmps10
    go_wp2_with fail
    go_ret
    exact ⟨by rw [HF.out]; rfl, B0.out⟩
  subst hd2
  have B0 : Hid (Below w.heap.size w ((w.alloc (.cells #[.slice ap n cp, .string x.result.elem, .string x.result.shape.row, .slice at_ x.result.shape.dims.length ct, .slice aq m cq] 41)).alloc (.cells #[.slice ap2 n cp2, .string y.result.elem, .string y.result.shape.row, .slice at2 y.result.shape.dims.length ct2, .slice aq2 m cq2] 41))) := Lib.hid (((Below.refl _ _).alloc (by simp <;> omega) _).alloc (by simp <;> omega) _)
  have xa0 : ((w.alloc (.cells #[.slice ap n cp, .string x.result.elem, .string x.result.shape.row, .slice at_ x.result.shape.dims.length ct, .slice aq m cq] 41)).alloc (.cells #[.slice ap2 n cp2, .string y.result.elem, .string y.result.shape.row, .slice at2 y.result.shape.dims.length ct2, .slice aq2 m cq2] 41)).cell? ⟨w.heap.size, 0, none⟩ = some (.slice ap n cp) := by simp [go_sem]
  have xa1 : ((w.alloc (.cells #[.slice ap n cp, .string x.result.elem, .string x.result.shape.row, .slice at_ x.result.shape.dims.length ct, .slice aq m cq] 41)).alloc (.cells #[.slice ap2 n cp2, .string y.result.elem, .string y.result.shape.row, .slice at2 y.result.shape.dims.length ct2, .slice aq2 m cq2] 41)).cell? ⟨w.heap.size, 1, none⟩ = some (.string x.result.elem) := by simp [go_sem]
  have xa2 : ((w.alloc (.cells #[.slice ap n cp, .string x.result.elem, .string x.result.shape.row, .slice at_ x.result.shape.dims.length ct, .slice aq m cq] 41)).alloc (.cells #[.slice ap2 n cp2, .string y.result.elem, .string y.result.shape.row, .slice at2 y.result.shape.dims.length ct2, .slice aq2 m cq2] 41)).cell? ⟨w.heap.size, 2, none⟩ = some (.string x.result.shape.row) := by simp [go_sem]
  have xa3 : ((w.alloc (.cells #[.slice ap n cp, .string x.result.elem, .string x.result.shape.row, .slice at_ x.result.shape.dims.length ct, .slice aq m cq] 41)).alloc (.cells #[.slice ap2 n cp2, .string y.result.elem, .string y.result.shape.row, .slice at2 y.result.shape.dims.length ct2, .slice aq2 m cq2] 41)).cell? ⟨w.heap.size, 3, none⟩ = some (.slice at_ x.result.shape.dims.length ct) := by simp [go_sem]
  have xa4 : ((w.alloc (.cells #[.slice ap n cp, .string x.result.elem, .string x.result.shape.row, .slice at_ x.result.shape.dims.length ct, .slice aq m cq] 41)).alloc (.cells #[.slice ap2 n cp2, .string y.result.elem, .string y.result.shape.row, .slice at2 y.result.shape.dims.length ct2, .slice aq2 m cq2] 41)).cell? ⟨w.heap.size, 4, none⟩ = some (.slice aq m cq) := by simp [go_sem]
  have xb0 : ((w.alloc (.cells #[.slice ap n cp, .string x.result.elem, .string x.result.shape.row, .slice at_ x.result.shape.dims.length ct, .slice aq m cq] 41)).alloc (.cells #[.slice ap2 n cp2, .string y.result.elem, .string y.result.shape.row, .slice at2 y.result.shape.dims.length ct2, .slice aq2 m cq2] 41)).cell? ⟨w.heap.size + 1, 0, none⟩ = some (.slice ap2 n cp2) := by simp [go_sem]
  have xb1 : ((w.alloc (.cells #[.slice ap n cp, .string x.result.elem, .string x.result.shape.row, .slice at_ x.result.shape.dims.length ct, .slice aq m cq] 41)).alloc (.cells #[.slice ap2 n cp2, .string y.result.elem, .string y.result.shape.row, .slice at2 y.result.shape.dims.length ct2, .slice aq2 m cq2] 41)).cell? ⟨w.heap.size + 1, 1, none⟩ = some (.string y.result.elem) := by simp [go_sem]
  have xb2 : ((w.alloc (.cells #[.slice ap n cp, .string x.result.elem, .string x.result.shape.row, .slice at_ x.result.shape.dims.length ct, .slice aq m cq] 41)).alloc (.cells #[.slice ap2 n cp2, .string y.result.elem, .string y.result.shape.row, .slice at2 y.result.shape.dims.length ct2, .slice aq2 m cq2] 41)).cell? ⟨w.heap.size + 1, 2, none⟩ = some (.string y.result.shape.row) := by simp [go_sem]
  have xb3 : ((w.alloc (.cells #[.slice ap n cp, .string x.result.elem, .string x.result.shape.row, .slice at_ x.result.shape.dims.length ct, .slice aq m cq] 41)).alloc (.cells #[.slice ap2 n cp2, .string y.result.elem, .string y.result.shape.row, .slice at2 y.result.shape.dims.length ct2, .slice aq2 m cq2] 41)).cell? ⟨w.heap.size + 1, 3, none⟩ = some (.slice at2 y.result.shape.dims.length ct2) := by simp [go_sem]
  have xb4 : ((w.alloc (.cells #[.slice ap n cp, .string x.result.elem, .string x.result.shape.row, .slice at_ x.result.shape.dims.length ct, .slice aq m cq] 41)).alloc (.cells #[.slice ap2 n cp2, .string y.result.elem, .string y.result.shape.row, .slice at2 y.result.shape.dims.length ct2, .slice aq2 m cq2] 41)).cell? ⟨w.heap.size + 1, 4, none⟩ = some (.slice aq2 m cq2) := by simp [go_sem]
  have hW0 : ((w.alloc (.cells #[.slice ap n cp, .string x.result.elem, .string x.result.shape.row, .slice at_ x.result.shape.dims.length ct, .slice aq m cq] 41)).alloc (.cells #[.slice ap2 n cp2, .string y.result.elem, .string y.result.shape.row, .slice at2 y.result.shape.dims.length ct2, .slice aq2 m cq2] 41)).heap.size = w.heap.size + 2 := by simp
  have q1 : ((n : Int) != (n : Int)) = false := by simp
  have q2 : ((m : Int) != (m : Int)) = false := by simp
  go_enter Tryz.func10, Tryz.ntmps10
  go_wp2_with fail
  generalize ((w.alloc (.cells #[.slice ap n cp, .string x.result.elem, .string x.result.shape.row, .slice at_ x.result.shape.dims.length ct, .slice aq m cq] 41)).alloc (.cells #[.slice ap2 n cp2, .string y.result.elem, .string y.result.shape.row, .slice at2 y.result.shape.dims.length ct2, .slice aq2 m cq2] 41)) = W at *
  have HCX : Hid (∀ W', Below W.heap.size W W' → Calls Tryz.prog 33 #[.agg #[.slice ap n cp, .string x.result.elem, .string x.result.shape.row, .slice at_ x.result.shape.dims.length ct, .slice aq m cq]] W' fun e w' => (∃ a c, e = .returned (.slice a (allT x).length c) ∧ Sl RTyp All w' a (allT x).length c (allT x)) ∧ Below W.heap.size W w' ∧ Below W'.heap.size W' w') :=
    Lib.hid (fun W' hW' => (HCX.out W' (B0.out.trans (hW'.mono B0.out.size))).mono fun e w' ⟨⟨v, he, ho⟩, hb⟩ => by
      obtain ⟨a, c, rfl, hs⟩ := ho.sl
      exact ⟨⟨a, c, he, hs.all⟩, hW'.trans (hb.mono hW'.size), hb⟩)
  have HCY : Hid (∀ W', Below W.heap.size W W' → Calls Tryz.prog 33 #[.agg #[.slice ap2 n cp2, .string y.result.elem, .string y.result.shape.row, .slice at2 y.result.shape.dims.length ct2, .slice aq2 m cq2]] W' fun e w' => (∃ a c, e = .returned (.slice a (allT y).length c) ∧ Sl RTyp All w' a (allT y).length c (allT y)) ∧ Below W.heap.size W w' ∧ Below W'.heap.size W' w') :=
    Lib.hid (fun W' hW' => (HCY.out W' (B0.out.trans (hW'.mono B0.out.size))).mono fun e w' ⟨⟨v, he, ho⟩, hb⟩ => by
      obtain ⟨a, c, rfl, hs⟩ := ho.sl
      exact ⟨⟨a, c, he, hs.all⟩, hW'.trans (hb.mono hW'.size), hb⟩)
  obtain ⟨N, hN⟩ : ∃ N, N = n + 1 := ⟨_, rfl⟩; rw [HAX.out, ← hN] at HCX; rw [HAY.out, ← hN] at HCY
  have hN2 : N ≤ 9223372036854775807 := by omega
  have HQ := Lib.hid (HQ0.out.below B0.out); have HQ2 := Lib.hid (HQ20.out.below B0.out)
  go_region_with (first
    | (go_at_call_of 33 (Value.slice ap n cp)
       refine (HCX.out _ ?hw).mono ?_
       case hw => (repeat (first | assumption | exact Below.refl _ _ | exact Hid.out (by assumption) | refine blw_alloc ?_ _ | refine blw_drew ?_))
       rintro e w1 ⟨⟨ax, cx, rfl, hslx⟩, hbx, hbx2⟩
       have r0 := cellB xb0 _ hbx; have r1 := cellB xb1 _ hbx; have r2 := cellB xb2 _ hbx; have r3 := cellB xb3 _ hbx
       have r4 := cellB xb4 _ hbx)
    | (go_at_call_of 33 (Value.slice ap2 n cp2)
       refine (HCY.out _ ?hw).mono ?_
       case hw => (repeat (first | assumption | exact Below.refl _ _ | exact Hid.out (by assumption) | refine blw_alloc ?_ _ | refine blw_drew ?_))
       rintro e w2 ⟨⟨ay, cy, rfl, hsly⟩, hby, hby2⟩
       have r0 := cellB xa0 _ hby; have r1 := cellB xa1 _ hby; have r2 := cellB xa2 _ hby; have r3 := cellB xa3 _ hby
       have r4 := cellB xa4 _ hby))
  all_goals
    have HSX := Lib.hid (hslx.below hby2); have HSY := Lib.hid hsly
    have HLX : Hid ((allT x).length = N) := Lib.hid (by rw [HAX.out, hN])
    have HLY : Hid ((allT y).length = N) := Lib.hid (by rw [HAY.out, hN])
    have g4 := cellB xa4 _ hby; have k4 := cellB xb4 _ hby; have HW2 := Lib.hid hby; have HQ2 := Lib.hid (HQ2.out.below hby); have HQ := Lib.hid (HQ.out.below hby); clear hslx hsly hbx hbx2 hby hby2 r0 r1 r2 r3 r4 xa0 xa1 xa2 xa3 xa4 xb0 xb1 xb2 xb3 xb4 HCX HCY
    go_wp2_with fail
    go_loopw [7] (fun i wr => ∃ k : Nat, k ≤ N ∧ i = .int .i64 k ∧ Hid (∀ j, j < k → eqTyp ((allT x).getD j default) ((allT y).getD j default) = true) ∧ Below w2.heap.size w2 wr) (fun i _ => N - (intOf i).toNat)
    case atStart => exact ⟨0, Nat.zero_le _, rfl, fun j hj => absurd hj (by omega), Below.refl _ _⟩
    case round =>
      obtain ⟨k, hk, rfl, HT, hB⟩ := hrel
      by_cases hlt : k < N
      · obtain ⟨b, off, rfl, hbW, _⟩ := HSX.out.form k hlt
        obtain ⟨b2, off2, rfl, hbW2, _⟩ := HSY.out.form k hlt; obtain ⟨t, hr, hd, c0, c1, c2⟩ := (HSX.out.below hB).typ k hlt; obtain ⟨t2, hr2, hd2, d0, d1, d2⟩ := (HSY.out.below hB).typ k hlt
        have HC := Lib.hid (fun t9 : Later wr => ref12_Equal (RTyp.below hr t9.b) (RTyp.below hr2 t9.b))
        have c0 := Later.cell c0; have c1 := Later.cell c1; have c2 := Later.cell c2; have d0 := Later.cell d0; have d1 := Later.cell d1; have d2 := Later.cell d2
        have HBad := Lib.hid (fun q => eqList_bad (p := eqTyp) (l := allT x) (l2 := allT y) (k := k) (by rw [HLX.out]; exact hlt) q)
        have HGo := Lib.hid (fun q => upto HT.out (p := fun j => eqTyp ((allT x).getD j default) ((allT y).getD j default) = true) q)
        clear hr hr2 hd hd2
        generalize (allT x).getD k default = u at *
        generalize (allT y).getD k default = u2 at *
        generalize eqTyp u u2 = q at *
        cases q with
        | true =>
          replace HGo := Lib.hid (HGo.out rfl)
          go_wp2_with fail
          refine wp_region_later (by kernel_rfl) (by kernel_rfl) ?_
          repeat (go_big_quiet_step (first | fail | exact Later.call (HC.out _)))
          refine wpQuiet_nil ?_
          rintro _ ⟨t9, rfl⟩
          go_wp2_with fail
          go_roundw
          case rel => exact ⟨k + 1, by omega, by go_num, HGo, hB.trans (t9.b.mono hB.size)⟩
          case measure => simp [intOf]; omega
        | false =>
          have HF : Hid (eqSch x y = false) := Lib.hid (by rw [HN.out, HBad.out rfl]; rfl)
          go_wp2_with fail
          refine wp_region_later (by kernel_rfl) (by kernel_rfl) ?_
          repeat (go_big_quiet_step (first | fail | exact Later.call (HC.out _)))
          refine wpQuiet_nil ?_
          rintro _ ⟨t9, rfl⟩
          go_wp2_with fail
          go_ret
          exact ⟨by rw [HF.out]; rfl, B0.out.trans ((HW2.out.trans ((hB.trans (t9.b.mono hB.size)).mono HW2.out.size)).mono B0.out.size)⟩
      · have HA : Hid (eqList eqTyp (allT x) (allT y) = true) := Lib.hid (eqList_good (by rw [HLX.out, HLY.out]) (fun j hj => HT.out j (by rw [HLX.out] at hj; omega)))
        have HN2 : Hid (eqSch x y = eqList eqLin x.wh y.wh) := Lib.hid (by rw [HN.out, HA.out]; rfl)
        have hW3 := HW2.out.trans (hB.mono HW2.out.size); have g5 := cellB g4 _ hB; have k5 := cellB k4 _ hB; have HW3 := Lib.hid hB; clear hW3 hB
        go_wp2_with fail
        go_loopw [8] (fun i wr => ∃ k : Nat, k ≤ m ∧ i = .int .i64 k ∧ Hid (∀ j, j < k → eqLin (x.wh.getD j default) (y.wh.getD j default) = true) ∧ Below w2.heap.size w2 wr) (fun i _ => m - (intOf i).toNat)
        case atStart => exact ⟨0, Nat.zero_le _, rfl, fun j hj => absurd hj (by omega), HW3.out⟩
        case round =>
          obtain ⟨k, hk, rfl, HT, hB⟩ := hrel; have g6 := cellB g4 _ hB; have k6 := cellB k4 _ hB
          by_cases hlt : k < m
          · obtain ⟨b, off, rfl, hbW, _⟩ := HQ.out.form k hlt
            obtain ⟨b2, off2, rfl, hbW2, _⟩ := HQ2.out.form k hlt; obtain ⟨t, hr, hd, c0, c1⟩ := (HQ.out.below hB).lin k hlt; obtain ⟨t2, hr2, hd2, d0, d1⟩ := (HQ2.out.below hB).lin k hlt
            have HC := Lib.hid (fun t9 : Later wr => ref04_Equal (RLin.below hr t9.b) (RLin.below hr2 t9.b))
            have g7 := Later.cell g6; have k7 := Later.cell k6; have c0 := Later.cell c0; have c1 := Later.cell c1; have d0 := Later.cell d0; have d1 := Later.cell d1
            have HBad := Lib.hid (fun q => eqList_bad (p := eqLin) (l := x.wh) (l2 := y.wh) (k := k) (by rw [HL1.out]; exact hlt) q)
            have HGo := Lib.hid (fun q => upto HT.out (p := fun j => eqLin (x.wh.getD j default) (y.wh.getD j default) = true) q)
            clear hr hr2 hd hd2
            generalize x.wh.getD k default = u at *
            generalize y.wh.getD k default = u2 at *
            generalize eqLin u u2 = q at *
            cases q with
            | true =>
              replace HGo := Lib.hid (HGo.out rfl)
              go_wp2_with fail
              refine wp_region_later (by kernel_rfl) (by kernel_rfl) ?_
              repeat (go_big_quiet_step (first | fail | exact Later.call (HC.out _)))
              refine wpQuiet_nil ?_
              rintro _ ⟨t9, rfl⟩
              go_wp2_with fail
              go_roundw
              case rel => exact ⟨k + 1, by omega, by go_num, HGo, hB.trans (t9.b.mono hB.size)⟩
              case measure => simp [intOf]; omega
            | false =>
              have HF : Hid (eqSch x y = false) := Lib.hid (by rw [HN2.out, HBad.out rfl])
              go_wp2_with fail
              refine wp_region_later (by kernel_rfl) (by kernel_rfl) ?_
              repeat (go_big_quiet_step (first | fail | exact Later.call (HC.out _)))
              refine wpQuiet_nil ?_
              rintro _ ⟨t9, rfl⟩
              go_wp2_with fail
              go_ret
              exact ⟨by rw [HF.out]; rfl, B0.out.trans ((HW2.out.trans ((hB.trans (t9.b.mono hB.size)).mono HW2.out.size)).mono B0.out.size)⟩
          · have HF : Hid (eqSch x y = true) := Lib.hid (by rw [HN2.out]; exact eqList_good (by rw [HL1.out, HL2.out]) (fun j hj => HT.out j (by rw [HL1.out] at hj; omega)))
            go_wp2_with fail
            go_ret
            exact ⟨by rw [HF.out]; rfl, B0.out.trans ((HW2.out.trans (hB.mono HW2.out.size)).mono B0.out.size)⟩
end Go.Proofs.YtjongcdlginjlaaGreatDoor
namespace Go.Proofs.YtjongcdlginjlaaGreatDoor
open Go.RowKit
def slim (x : Ent) : Prop := x.scheme.params.length ≤ 1000000
set_option maxHeartbeats 2000000 in
theorem ref57_Equal {S T : Blk} {x y : Ifc} {a a2 : Option Addr} {c c2 : Nat} {w : World} (hs : Sl REnt S w a x.entries.length c x.entries) (hs2 : Sl REnt T w a2 y.entries.length c2 y.entries) (hpx : ∀ e ∈ x.entries, slim e) (hpy : ∀ e ∈ y.entries, slim e) :
    Calls Tryz.prog 11 #[.agg #[.string x.module_, .slice a x.entries.length c], .agg #[.string y.module_, .slice a2 y.entries.length c2]] w fun e w' => e = .returned (.bool (eqIfc x y)) ∧ Below w.heap.size w w' := by
  have hm := hs.small; have hm2 := hs2.small
  have HN : Hid (eqIfc x y = ((x.module_.toList == y.module_.toList) && eqList eqEnt x.entries y.entries)) := Lib.hid rfl
  have HPX := Lib.hid hpx; have HPY := Lib.hid hpy; have HS0 := Lib.hid hs; have HS20 := Lib.hid hs2; clear hpx hpy hs hs2
  generalize hl1 : x.entries.length = n at *
  generalize hl2 : y.entries.length = n2 at *
  have HL1 := Lib.hid hl1; have HL2 := Lib.hid hl2; clear hl1 hl2
  have B0 : Hid (Below w.heap.size w ((w.alloc (.cells #[.string x.module_, .slice a n c] 24)).alloc (.cells #[.string y.module_, .slice a2 n2 c2] 24))) := Lib.hid (((Below.refl _ _).alloc (by simp <;> omega) _).alloc (by simp <;> omega) _)
  have xa0 : ((w.alloc (.cells #[.string x.module_, .slice a n c] 24)).alloc (.cells #[.string y.module_, .slice a2 n2 c2] 24)).cell? ⟨w.heap.size, 0, none⟩ = some (.string x.module_) := by simp [go_sem]
  have xa1 : ((w.alloc (.cells #[.string x.module_, .slice a n c] 24)).alloc (.cells #[.string y.module_, .slice a2 n2 c2] 24)).cell? ⟨w.heap.size, 1, none⟩ = some (.slice a n c) := by simp [go_sem]
  have xb0 : ((w.alloc (.cells #[.string x.module_, .slice a n c] 24)).alloc (.cells #[.string y.module_, .slice a2 n2 c2] 24)).cell? ⟨w.heap.size + 1, 0, none⟩ = some (.string y.module_) := by simp [go_sem]
  have xb1 : ((w.alloc (.cells #[.string x.module_, .slice a n c] 24)).alloc (.cells #[.string y.module_, .slice a2 n2 c2] 24)).cell? ⟨w.heap.size + 1, 1, none⟩ = some (.slice a2 n2 c2) := by simp [go_sem]
  have hW0 : ((w.alloc (.cells #[.string x.module_, .slice a n c] 24)).alloc (.cells #[.string y.module_, .slice a2 n2 c2] 24)).heap.size = w.heap.size + 2 := by simp
  have HS := Lib.hid (HS0.out.below B0.out); have HS2 := Lib.hid (HS20.out.below B0.out); clear HS0 HS20
  by_cases hc : (x.module_.toList == y.module_.toList) = true
  case neg =>
    have hc : (x.module_.toList == y.module_.toList) = false := by simpa using hc
    have hc2 := neqB' hc
    have HF : Hid (eqIfc x y = false) := Lib.hid (by rw [HN.out, hc]; rfl)
    go_enter Tryz.func11, Tryz.ntmps11
    go_wp2_with fail
    go_ret
    exact ⟨by rw [HF.out]; rfl, B0.out⟩
  have HN : Hid (eqIfc x y = eqList eqEnt x.entries y.entries) := Lib.hid (by rw [HN.out, hc]; rfl)
  have hc2 := neqB hc
  by_cases hd : n = n2
  case neg =>
    have q1 : ((n : Int) != (n2 : Int)) = true := bne_iff_ne.2 (by omega)
    have HF : Hid (eqIfc x y = false) := Lib.hid (by rw [HN.out, eqList_len (by rw [HL1.out, HL2.out]; exact hd)])
    go_enter Tryz.func11, Tryz.ntmps11
    go_wp2_with fail
    go_ret
    exact ⟨by rw [HF.out]; rfl, B0.out⟩
  subst hd
  have q1 : ((n : Int) != (n : Int)) = false := by simp
  go_enter Tryz.func11, Tryz.ntmps11
  go_wp2_with fail
  generalize ((w.alloc (.cells #[.string x.module_, .slice a n c] 24)).alloc (.cells #[.string y.module_, .slice a2 n c2] 24)) = W at *
  clear hc hc2 q1
  go_loopw [5] (fun i wr => ∃ k : Nat, k ≤ n ∧ i = .int .i64 k ∧ Hid (∀ j, j < k → eqEnt (x.entries.getD j default) (y.entries.getD j default) = true) ∧ Below W.heap.size W wr) (fun i _ => n - (intOf i).toNat)
  case atStart => exact ⟨0, Nat.zero_le _, rfl, fun j hj => absurd hj (by omega), Below.refl _ _⟩
  case round =>
    obtain ⟨k, hk, rfl, HT, hB⟩ := hrel; have g1 := cellB xa1 _ hB; have k1 := cellB xb1 _ hB
    by_cases hlt : k < n
    · obtain ⟨b, off, rfl, hbW, _⟩ := HS.out.form k hlt
      obtain ⟨b2, off2, rfl, hbW2, _⟩ := HS2.out.form k hlt; obtain ⟨pp, tt, qq, hr, hd, c0, c1, c2, c3, c4, c5⟩ := (HS.out.below hB).ent k hlt; obtain ⟨pp2, tt2, qq2, hr2, hd2, d0, d1, d2, d3, d4, d5⟩ := (HS2.out.below hB).ent k hlt; obtain ⟨_, e1, hr⟩ := hr; obtain ⟨_, e2, hr2⟩ := hr2
      cases e1
      cases e2
      have hs1 := HPX.out _ (getD_mem (l := x.entries) (k := k) (by rw [HL1.out]; exact hlt))
      have hs2 := HPY.out _ (getD_mem (l := y.entries) (k := k) (by rw [HL2.out]; exact hlt))
      have HC := Lib.hid (fun t9 : Later wr => ref12_EqualScheme (RSch.below hr t9.b) (RSch.below hr2 t9.b) hs1 hs2)
      have g1 := Later.cell g1; have k1 := Later.cell k1; have c0 := Later.cell c0; have c1 := Later.cell c1; have c2 := Later.cell c2; have c3 := Later.cell c3; have c4 := Later.cell c4; have c5 := Later.cell c5; have d0 := Later.cell d0; have d1 := Later.cell d1; have d2 := Later.cell d2; have d3 := Later.cell d3; have d4 := Later.cell d4; have d5 := Later.cell d5
      have HBad := Lib.hid (fun q => eqList_bad (p := eqEnt) (l := x.entries) (l2 := y.entries) (k := k) (by rw [HL1.out]; exact hlt) q)
      have HGo := Lib.hid (fun q => upto HT.out (p := fun j => eqEnt (x.entries.getD j default) (y.entries.getD j default) = true) q)
      clear hr hr2 hd hd2 hs1 hs2
      generalize x.entries.getD k default = u at *
      generalize y.entries.getD k default = u2 at *
      have HE : Hid (eqEnt u u2 = ((u.name.toList == u2.name.toList) && eqSch u.scheme u2.scheme)) := Lib.hid rfl
      by_cases hn : (u.name.toList == u2.name.toList) = true
      · have hn2 := neqB hn
        rw [hn, Bool.true_and] at HE
        generalize eqSch u.scheme u2.scheme = q at *
        cases q with
        | true =>
          replace HGo := Lib.hid (HGo.out HE.out)
          go_wp2_with fail
          refine wp_region_later (by kernel_rfl) (by kernel_rfl) ?_
          repeat (go_big_quiet_step (first | fail | exact Later.call (HC.out _)))
          refine wpQuiet_nil ?_
          rintro _ ⟨t9, rfl⟩
          go_wp2_with fail
          go_roundw
          case rel => exact ⟨k + 1, by omega, by go_num, HGo, hB.trans (t9.b.mono hB.size)⟩
          case measure => simp [intOf]; omega
        | false =>
          have HF : Hid (eqIfc x y = false) := Lib.hid (by rw [HN.out, HBad.out HE.out])
          go_wp2_with fail
          refine wp_region_later (by kernel_rfl) (by kernel_rfl) ?_
          repeat (go_big_quiet_step (first | fail | exact Later.call (HC.out _)))
          refine wpQuiet_nil ?_
          rintro _ ⟨t9, rfl⟩
          go_wp2_with fail
          go_ret
          exact ⟨by rw [HF.out]; rfl, B0.out.trans ((hB.trans (t9.b.mono hB.size)).mono B0.out.size)⟩
      · have hn : (u.name.toList == u2.name.toList) = false := by simpa using hn
        have hn2 := neqB' hn; rw [hn, Bool.false_and] at HE
        have HF : Hid (eqIfc x y = false) := Lib.hid (by rw [HN.out, HBad.out HE.out])
        go_wp2_with fail
        refine wp_region_later (by kernel_rfl) (by kernel_rfl) ?_
        repeat (go_big_quiet_step (first | fail | exact Later.call (HC.out _)))
        refine wpQuiet_nil ?_
        rintro _ ⟨t9, rfl⟩
        go_wp2_with fail
        go_ret
        exact ⟨by rw [HF.out]; rfl, B0.out.trans ((hB.trans (t9.b.mono hB.size)).mono B0.out.size)⟩
    · have HF : Hid (eqIfc x y = true) := Lib.hid (by rw [HN.out]; exact eqList_good (by rw [HL1.out, HL2.out]) (fun j hj => HT.out j (by rw [HL1.out] at hj; omega)))
      go_wp2_with fail
      go_ret
      exact ⟨by rw [HF.out]; rfl, B0.out.trans (hB.mono B0.out.size)⟩
end Go.Proofs.YtjongcdlginjlaaGreatDoor
namespace Go.Proofs.YtjongcdlginjlaaGreatDoor
open Go.RowKit
theorem any_not_false {α : Type} {p : α → Bool} {l : List α} (h : (!l.any (fun x => !p x)) = true) : ∀ x ∈ l, p x = true := by
  intro x hx
  cases hp : p x with
  | true => rfl
  | false =>
    have : l.any (fun x => !p x) = true := List.any_eq_true.2 ⟨x, hx, by rw [hp]; rfl⟩
    rw [this] at h; cases h
theorem few_lin {x : Lin} (h : fewLin x = true) : szL x := by
  unfold fewLin at h
  rw [Bool.and_eq_true] at h
  intro t ht
  have := any_not_false h.1 t ht
  unfold fewC at this
  have := of_decide_eq_true this
  omega
theorem few_shp {s : Shp} (h : fewShp s = true) : szH s ∧ s.dims.length ≤ 8 := by
  unfold fewShp at h
  rw [Bool.and_eq_true, Bool.and_eq_true, decide_eq_true_eq, decide_eq_true_eq] at h
  exact ⟨⟨by omega, fun x hx => few_lin (any_not_false h.1 x hx)⟩, h.2.1⟩
theorem few_typ {t : Typ} (h : fewTyp t = true) : szT t := by
  unfold fewTyp at h
  rw [Bool.and_eq_true, decide_eq_true_eq] at h
  exact ⟨by omega, (few_shp h.2).1⟩
theorem few_sch {s : Sch} (h : fewSch s = true) (hw : ∀ y ∈ s.wh, szL y) : szS s ∧ s.params.length ≤ 13 ∧ (validSch s = true → s.wh.length ≤ 8) := by
  unfold fewSch at h
  rw [Bool.and_eq_true, Bool.and_eq_true, Bool.and_eq_true, Bool.or_eq_true, decide_eq_true_eq, decide_eq_true_eq, beq_iff_eq] at h; obtain ⟨h1, h2, h3, h4⟩ := h; have ha := any_not_false h1
  refine ⟨⟨fun t ht => few_typ (ha t ?_), few_typ (ha _ ?_), hw⟩, h3, fun hv => ?_⟩
  · unfold allT; exact List.mem_append_left _ ht
  · unfold allT; exact List.mem_append_right _ (List.mem_singleton.2 rfl)
  · have := (validSch_parts hv).2.1
    omega
theorem few_ent {e : Ent} (h : fewE e = true) (hw : ∀ y ∈ e.scheme.wh, szL y) : szS e.scheme ∧ e.scheme.params.length ≤ 13 ∧ (validSch e.scheme = true → e.scheme.wh.length ≤ 8) ∧ e.name.size ≤ 40 := by
  unfold fewE at h
  rw [Bool.and_eq_true, decide_eq_true_eq] at h; obtain ⟨h1, h2, h3⟩ := few_sch h.1 hw
  exact ⟨h1, h2, h3, h.2⟩
theorem few_ifc {i : Ifc} (h : fewIfc i = true) : (∀ e ∈ i.entries, fewE e = true) ∧ i.entries.length ≤ 6 ∧ i.module_.size ≤ 40 := by
  unfold fewIfc at h
  rw [Bool.and_eq_true, Bool.and_eq_true, decide_eq_true_eq, decide_eq_true_eq] at h
  exact ⟨any_not_false h.1, h.2.1, h.2.2⟩
theorem can_few {s : Sch} (hp : s.params.length ≤ 13) (hl : validSch s = true → s.wh.length ≤ 8) : szS (can s) ∧ (can s).params.length ≤ 13 ∧ (can s).wh.length ≤ 8 := by
  cases ho : canOk s with
  | true =>
    have hv : validSch s = true := by
      unfold canOk subSchOk at ho
      rw [Bool.and_eq_true] at ho
      exact ho.1
    have hc : can s = canR s := by unfold can; rw [if_pos ho]
    have hv2 : validSch (can s) = true := by rw [hc]; exact can_valid ho
    refine ⟨sch_sz hv2, ?_, ?_⟩
    · rw [hc]; unfold canR; simpa using hp
    · rw [hc]; unfold canR
      refine Nat.le_trans (tidy_len _) ?_
      rw [List.length_map]; exact hl hv
  | false =>
    have hc : can s = noSch := by unfold can; rw [if_neg (by rw [ho]; decide)]
    rw [hc]
    exact ⟨⟨fun t ht => absurd ht (List.not_mem_nil), ⟨(by decide : (0 : Nat) ≤ 10000), (by decide : (0 : Nat) ≤ 10000), fun x hx => absurd hx (List.not_mem_nil)⟩, fun x hx => absurd hx (List.not_mem_nil)⟩, (by decide : (0 : Nat) ≤ 13), (by decide : (0 : Nat) ≤ 8)⟩
theorem fine_of {e : Ent} (h : szS e.scheme ∧ e.scheme.params.length ≤ 13 ∧ (validSch e.scheme = true → e.scheme.wh.length ≤ 8) ∧ e.name.size ≤ 40) : fine e := ⟨h.1, by omega, fun hv => by have := h.2.2.1 hv; omega⟩
theorem fixE_few {e : Ent} (h : szS e.scheme ∧ e.scheme.params.length ≤ 13 ∧ (validSch e.scheme = true → e.scheme.wh.length ≤ 8) ∧ e.name.size ≤ 40) : szS (fixE e).scheme ∧ (fixE e).scheme.params.length ≤ 13 ∧ (validSch (fixE e).scheme = true → (fixE e).scheme.wh.length ≤ 8) ∧ (fixE e).name.size ≤ 40 := by
  cases hf : fixB e with
  | true =>
    rw [fixE_yes hf]; obtain ⟨q1, q2, q3⟩ := can_few h.2.1 h.2.2.1
    exact ⟨q1, q2, fun _ => q3, h.2.2.2⟩
  | false => rw [fixE_no hf]; exact h
theorem Own.fit {α : Type} {R : Rep α} {E : TypeId} {S : Blk} {w : World} {base : Nat} {a : Option Addr} {n c : Nat} {l : List α} (h : Own R E S w base (.slice a n c) l) : Fit w a := fun ad e => by
  subst e; obtain ⟨css, _, hrow, _⟩ := h.row; obtain ⟨a2, c2, hv, _, _, _, hg⟩ := ownsRow_form hrow; rw [Value.slice.injEq] at hv; obtain ⟨rfl, -, rfl⟩ := hv; obtain ⟨g, e, _, hg2⟩ := hg ad rfl
  exact ⟨g, 0, e, hg2⟩
theorem Own.ready {E : TypeId} {L B : Nat} {w : World} {v : Value} {l : List Ent} (h : Own REnt E (fun k => k < L) w B v l) : ∃ a c, v = .slice a l.length c ∧ Sl REnt (fun k => (k < L ∨ B ≤ k) ∧ k < w.heap.size) w a l.length c l ∧ Fit w a := by
  obtain ⟨a, c, rfl, hs, hat⟩ := h.slAt
  exact ⟨a, c, rfl, hs.mono (fun k hk hlt => ⟨hk.elim .inl (fun q => .inr (hat k q).1), hlt⟩), h.fit⟩
theorem put2 {S : Blk} {W0 w1 : World} {g B : Nat} {T : TypeId} {z0 z1 : Value} (v0 v1 : Value) {a : Option Addr} {n c : Nat} {l : List Ent} (hb : Bx W0 g T [z0, z1]) (hr : Sl REnt S W0 a n c l) (hS : ∀ k, S k → k < W0.heap.size → k ≠ g) (hB : Below B w1 W0) (hg : B ≤ g) :
    Hid (Bx ((W0.setCell ⟨g, 0, none⟩ v0).setCell ⟨g, 1, none⟩ v1) g T [v0, v1]) ∧ Hid (Sl REnt All ((W0.setCell ⟨g, 0, none⟩ v0).setCell ⟨g, 1, none⟩ v1) a n c l) ∧ Hid (Below B w1 ((W0.setCell ⟨g, 0, none⟩ v0).setCell ⟨g, 1, none⟩ v1)) :=
  ⟨Lib.hid ((hb.set 0 v0).set 1 v1), Lib.hid ((hr.frame (fun k hk hlt => (heap_set_ne (fun e => hS k hk hlt e.symm)).trans (heap_set_ne (fun e => hS k hk hlt e.symm)))).all), Lib.hid ((hB.setCell hg _).setCell hg _)⟩
theorem rev_next {l : List Ent} {k : Nat} (hk : k < l.length) : (l.drop (k + 1)).reverse ++ [l.getD k default] = (l.drop k).reverse := by
  rw [List.drop_eq_getElem_cons hk, List.reverse_cons, List.getD_eq_getElem?_getD, List.getElem?_eq_getElem hk]; rfl
theorem fixB_at (x : Ent) : fixB x = ((canErr x.scheme == 0) && ((canErr (can x.scheme) == 0) && eqSch (can x.scheme) (can (can x.scheme)))) := rfl
theorem says_few {mod : Str} {l : List Ent} {A : Ifc} {e : Int} (h : Says mod l A e) (hm : mod.size ≤ 40) (hl : l.length ≤ 6) (hf : ∀ e ∈ l, szS e.scheme ∧ e.scheme.params.length ≤ 13 ∧ (validSch e.scheme = true → e.scheme.wh.length ≤ 8) ∧ e.name.size ≤ 40) :
    A.entries.length ≤ 6 ∧ A.module_.size ≤ 40 ∧ ∀ e ∈ A.entries, szS e.scheme ∧ e.scheme.params.length ≤ 13 ∧ e.name.size ≤ 40 := by
  rcases h with ⟨_, rfl, _⟩ | ⟨_, _, rfl, _⟩ | ⟨_, _, _, m, hp, _, rfl⟩
  · exact ⟨(by decide : (0 : Nat) ≤ 6), (by decide : (0 : Nat) ≤ 40), fun e he => absurd he (List.not_mem_nil)⟩
  · exact ⟨(by decide : (0 : Nat) ≤ 6), (by decide : (0 : Nat) ≤ 40), fun e he => absurd he (List.not_mem_nil)⟩
  · refine ⟨?_, hm, fun e he => ?_⟩
    · show (m.map canE).length ≤ 6
      rw [List.length_map, hp.length_eq]; exact hl
    · obtain ⟨e0, he0, rfl⟩ := List.mem_map.1 he
      have h0 := hf e0 (hp.mem_iff.1 he0); obtain ⟨q1, q2, _⟩ := can_few h0.2.1 h0.2.2.1
      exact ⟨q1, q2, h0.2.2.2⟩
end Go.Proofs.YtjongcdlginjlaaGreatDoor
namespace Go.Proofs.YtjongcdlginjlaaGreatDoor
open Go.RowKit
def itoaS (n : Int) : Str := ⟨(Lib.itoa n).toArray⟩
def cutS (s : Str) : Str := ⟨(Lib.trimSuffix s.data.toList [49]).toArray⟩
def oneB (n : Int) (s : Str) : Bool := !s.toList.isEmpty && (n == 1 || n == -1)
def digS (n : Int) (s : Str) : Str := if oneB n s then cutS (itoaS n) else itoaS n
def plusB (out : Str) (n : Int) : Bool := decide (0 ≤ n) && !out.toList.isEmpty
def plusS (out : Str) (n : Int) : Str := if plusB out n then out ++ ⟨#[43]⟩ else out
def partS (out : Str) (n : Int) (s : Str) : Str := plusS out n ++ (digS n s ++ s)
def sumS (l : List Coef) : Str := l.foldl (fun o t => partS o t.c t.v) ⟨#[]⟩
def endB (o : Str) (c : Int) : Bool := (c != 0) || o.toList.isEmpty
def endS (o : Str) (c : Int) : Str := if endB o c then partS o c ⟨#[]⟩ else o
def printL (l : Lin) : Str := if validLin l then endS (sumS l.terms) l.const else ⟨#[]⟩
theorem sumS_next {l : List Coef} {k : Nat} (hk : k < l.length) : sumS (l.take (k + 1)) = partS (sumS (l.take k)) (l.getD k default).c (l.getD k default).v := by
  unfold sumS
  rw [take_one hk, List.foldl_append]; rfl
theorem trim_one (s : Str) (w : World) (hs : s.size ≤ 1000) : Calls Tryz.prog 219 #[.string s, .string ⟨#[49]⟩] w fun e w' => e = .returned (.string (cutS s)) ∧ w = w' :=
  (Tryz.strings_TrimSuffix s ⟨#[49]⟩ w (by omega)).mono fun e w' ⟨h1, h2⟩ => ⟨h1, h2.symm⟩
theorem cutS_size (s : Str) : (cutS s).size ≤ s.size := by
  unfold cutS Lib.trimSuffix
  show (if _ then _ else _ : List UInt8).toArray.size ≤ _
  split
  · rw [List.size_toArray, List.length_take]; exact Nat.min_le_right _ _
  · exact Nat.le_refl _
theorem itoaS_size (n : Int) (h0 : -9223372036854775808 ≤ n) (h1 : n ≤ 9223372036854775807) : (itoaS n).size ≤ 21 := by
  have := Lib.itoa_length_le n h0 h1
  unfold itoaS
  show (Lib.itoa n).toArray.size ≤ 21
  simpa using this
set_option maxHeartbeats 2000000 in
theorem linear_Print_1 (n : Int) (h0 : -1000000 ≤ n) (h1 : n ≤ 1000000) (s : Str) (p : Nat) (out : Str) (w : World) (hb : Bx w p 9 [.string out]) (hos : out.size ≤ 1000000) (hss : s.size ≤ 1000000) (E : Env w) :
    Calls Tryz.prog 218 #[.int .i64 n, .string s, .pointer (some ⟨p, 0, none⟩)] w fun e w' => e = .returned (.tuple #[]) ∧ Bx w' p 9 [.string (partS out n s)] ∧ Kb p w w' := by
  have HI := Lib.hid (itoa_any n (by omega) (by omega) w E)
  have HB := Lib.hid hb
  have hsz := itoaS_size n (by omega) (by omega)
  have hcz : (cutS (itoaS n)).size ≤ 21 := Nat.le_trans (cutS_size _) hsz
  have hpz : (out ++ (⟨#[43]⟩ : Str)).size ≤ 1000001 := by rw [ByteArray.size_append]; show out.size + 1 ≤ _; omega
  have HP : Hid (partS out n s = plusS out n ++ (digS n s ++ s)) := Lib.hid rfl
  change Hid (Calls _ _ _ _ fun e w' => e = .returned (.string (itoaS n)) ∧ _) at HI
  have HD1 : Hid (oneB n s = true → digS n s = cutS (itoaS n)) := Lib.hid (fun q => by unfold digS; rw [if_pos q])
  have HD0 : Hid (oneB n s = false → digS n s = itoaS n) := Lib.hid (fun q => by unfold digS; rw [if_neg (by rw [q]; decide)])
  have HQ1 : Hid (plusB out n = true → plusS out n = out ++ ⟨#[43]⟩) := Lib.hid (fun q => by unfold plusS; rw [if_pos q])
  have HQ0 : Hid (plusB out n = false → plusS out n = out) := Lib.hid (fun q => by unfold plusS; rw [if_neg (by rw [q]; decide)])
  clear hb E
  generalize itoaS n = d at *
  go_enter Tryz.func218, Tryz.ntmps218
  go_wp2_with fail
  refine HI.out.mono ?_
  rintro e w1 ⟨rfl, hb1⟩
  have HB1 := Lib.hid (HB.out.below hb1 HB.out.lt)
  have HK1 : Hid (Kb p w w1) := Lib.hid ((Kb.refl p w).later hb1)
  have y0 := HB1.out.cell 0 _ rfl; have f0 := HB1.out.fz 0; clear hb1
  cases hs : s.toList.isEmpty with
  | true =>
    have HD : Hid (digS n s = d) := Lib.hid (HD0.out (by unfold oneB; rw [hs]; rfl))
    by_cases hn0 : 0 ≤ n
    · cases ho : out.toList.isEmpty with
      | true =>
        have HF : Hid (partS out n s = out ++ (d ++ s)) := Lib.hid (by rw [HP.out, HQ0.out (by unfold plusB; rw [ho]; simp), HD.out])
        have hsum : (d ++ s).size ≤ 1000021 := by rw [ByteArray.size_append]; omega
        go_wp2_with fail
        go_end0
        exact ⟨rfl, by rw [HF.out]; exact HB1.out.set 0 _, HK1.out.set _ _⟩
      | false =>
        have HF : Hid (partS out n s = (out ++ ⟨#[43]⟩) ++ (d ++ s)) := Lib.hid (by rw [HP.out, HQ1.out (by unfold plusB; rw [ho, decide_eq_true (by omega)]; rfl), HD.out])
        have HB2 := Lib.hid (HB1.out.set 0 (.string (out ++ ⟨#[43]⟩))); have y2 := HB2.out.cell 0 _ rfl; have f2 := HB2.out.fz 0
        have hsum : (d ++ s).size ≤ 1000021 := by rw [ByteArray.size_append]; omega
        go_wp2_with fail
        go_end0
        exact ⟨rfl, by rw [HF.out]; exact HB2.out.set 0 _, (HK1.out.set _ _).set _ _⟩
    · have HF : Hid (partS out n s = out ++ (d ++ s)) := Lib.hid (by rw [HP.out, HQ0.out (by unfold plusB; rw [decide_eq_false (by omega)]; rfl), HD.out])
      have hsum : (d ++ s).size ≤ 1000021 := by rw [ByteArray.size_append]; omega
      go_wp2_with fail
      go_end0
      exact ⟨rfl, by rw [HF.out]; exact HB1.out.set 0 _, HK1.out.set _ _⟩
  | false =>
    by_cases hn1 : n = 1
    · subst hn1
      have HD : Hid (digS 1 s = cutS d) := Lib.hid (HD1.out (by unfold oneB; rw [hs]; rfl))
      go_wp2_with fail
      refine (trim_one d _ (by omega)).mono ?_
      rintro e _ ⟨rfl, rfl⟩
      generalize cutS d = dd at *
      cases ho : out.toList.isEmpty with
      | true =>
        have HF : Hid (partS out 1 s = out ++ (dd ++ s)) := Lib.hid (by rw [HP.out, HQ0.out (by unfold plusB; rw [ho]; simp), HD.out])
        have hsum : (dd ++ s).size ≤ 1000021 := by rw [ByteArray.size_append]; omega
        go_wp2_with fail
        go_end0
        exact ⟨rfl, by rw [HF.out]; exact HB1.out.set 0 _, HK1.out.set _ _⟩
      | false =>
        have HF : Hid (partS out 1 s = (out ++ ⟨#[43]⟩) ++ (dd ++ s)) := Lib.hid (by rw [HP.out, HQ1.out (by unfold plusB; rw [ho, decide_eq_true (by omega)]; rfl), HD.out])
        have HB2 := Lib.hid (HB1.out.set 0 (.string (out ++ ⟨#[43]⟩))); have y2 := HB2.out.cell 0 _ rfl; have f2 := HB2.out.fz 0
        have hsum : (dd ++ s).size ≤ 1000021 := by rw [ByteArray.size_append]; omega
        go_wp2_with fail
        go_end0
        exact ⟨rfl, by rw [HF.out]; exact HB2.out.set 0 _, (HK1.out.set _ _).set _ _⟩
    · by_cases hn2 : n = -1
      · subst hn2
        have HD : Hid (digS (-1) s = cutS d) := Lib.hid (HD1.out (by unfold oneB; rw [hs]; rfl))
        go_wp2_with fail
        refine (trim_one d _ (by omega)).mono ?_
        rintro e _ ⟨rfl, rfl⟩
        generalize cutS d = dd at *
        have HF : Hid (partS out (-1) s = out ++ (dd ++ s)) := Lib.hid (by rw [HP.out, HQ0.out (by unfold plusB; rw [decide_eq_false (by omega)]; rfl), HD.out])
        have hsum : (dd ++ s).size ≤ 1000021 := by rw [ByteArray.size_append]; omega
        go_wp2_with fail
        go_end0
        exact ⟨rfl, by rw [HF.out]; exact HB1.out.set 0 _, HK1.out.set _ _⟩
      · have hq1 : (n == 1) = false := beq_eq_false_iff_ne.2 hn1
        have hq2 : (n == -1) = false := beq_eq_false_iff_ne.2 hn2
        have HD : Hid (digS n s = d) := Lib.hid (HD0.out (by unfold oneB; rw [hs, hq1, hq2]; rfl))
        by_cases hn0 : 0 ≤ n
        · cases ho : out.toList.isEmpty with
          | true =>
            have HF : Hid (partS out n s = out ++ (d ++ s)) := Lib.hid (by rw [HP.out, HQ0.out (by unfold plusB; rw [ho]; simp), HD.out])
            have hsum : (d ++ s).size ≤ 1000021 := by rw [ByteArray.size_append]; omega
            go_wp2_with fail
            go_end0
            exact ⟨rfl, by rw [HF.out]; exact HB1.out.set 0 _, HK1.out.set _ _⟩
          | false =>
            have HF : Hid (partS out n s = (out ++ ⟨#[43]⟩) ++ (d ++ s)) := Lib.hid (by rw [HP.out, HQ1.out (by unfold plusB; rw [ho, decide_eq_true (by omega)]; rfl), HD.out])
            have HB2 := Lib.hid (HB1.out.set 0 (.string (out ++ ⟨#[43]⟩))); have y2 := HB2.out.cell 0 _ rfl; have f2 := HB2.out.fz 0
            have hsum : (d ++ s).size ≤ 1000021 := by rw [ByteArray.size_append]; omega
            go_wp2_with fail
            go_end0
            exact ⟨rfl, by rw [HF.out]; exact HB2.out.set 0 _, (HK1.out.set _ _).set _ _⟩
        · have HF : Hid (partS out n s = out ++ (d ++ s)) := Lib.hid (by rw [HP.out, HQ0.out (by unfold plusB; rw [decide_eq_false (by omega)]; rfl), HD.out])
          have hsum : (d ++ s).size ≤ 1000021 := by rw [ByteArray.size_append]; omega
          go_wp2_with fail
          go_end0
          exact ⟨rfl, by rw [HF.out]; exact HB1.out.set 0 _, HK1.out.set _ _⟩
end Go.Proofs.YtjongcdlginjlaaGreatDoor
namespace Go.Proofs.YtjongcdlginjlaaGreatDoor
open Go.RowKit
theorem partS_size {out : Str} {n : Int} {s : Str} (h0 : -1000000 ≤ n) (h1 : n ≤ 1000000) : (partS out n s).size ≤ out.size + 22 + s.size := by
  have q1 := itoaS_size n (by omega) (by omega)
  have q2 := cutS_size (itoaS n)
  have q3 : (digS n s).size ≤ 21 := by unfold digS; split <;> omega
  have q4 : (plusS out n).size ≤ out.size + 1 := by
    unfold plusS
    split
    · rw [ByteArray.size_append]; exact Nat.le_refl _
    · omega
  unfold partS
  rw [ByteArray.size_append, ByteArray.size_append]
  omega
theorem sumS_size {l : List Coef} (hb : Bd 1000000 l) (hn : ∀ t ∈ l, nameB t.v = true) : ∀ k, k ≤ l.length → (sumS (l.take k)).size ≤ k * 100
  | 0, _ => Nat.zero_le _
  | k + 1, hk => by
    have ih := sumS_size hb hn k (by omega)
    have hm := getD_mem (l := l) (k := k) (by omega)
    have q1 := name_sz (hn _ hm); have q2 := hb _ hm
    rw [sumS_next (by omega)]
    have := partS_size (out := sumS (l.take k)) (s := (l.getD k default).v) q2.1 q2.2
    omega
theorem printL_size (x : Lin) : (printL x).size ≤ 2000 := by
  unfold printL
  split
  · rename_i h
    obtain ⟨_, _, hb, hn, hc, hl⟩ := valid_parts h; have q := sumS_size hb hn x.terms.length (Nat.le_refl _); rw [List.take_length] at q
    unfold endS
    split
    · have := partS_size (out := sumS x.terms) (s := ⟨#[]⟩) hc.1 hc.2
      have e : (⟨#[]⟩ : Str).size = 0 := rfl
      omega
    · omega
  · exact Nat.zero_le _
set_option maxHeartbeats 2000000 in
theorem linear_Print {S : Blk} {x : Lin} {cs : List Value} {w : World} (h : RLin.rd S w cs x) (hz : szL x) (E : Env w) :
    Calls Tryz.prog 184 #[.agg cs.toArray] w fun e w' => e = .returned (.string (printL x)) ∧ Below w.heap.size w w' := by
  have HV : Hid (∀ W, Below w.heap.size w W → Calls Tryz.prog 80 #[.agg cs.toArray] W fun e w' => e = .returned (.bool (validLin x)) ∧ Below W.heap.size W w') := Lib.hid (fun W hW => linear_Valid_rd (RLin.below h hW) hz (E.below hW))
  have HE := Lib.hid (fun (W : World) (hW : Below w.heap.size w W) => E.below hW)
  obtain ⟨t, rfl, a, c, rfl, hs⟩ := h; have hm := hs.small; have HLn := Lib.hid hs.len; have HS0 := Lib.hid hs; clear hs E hz
  generalize hl1 : x.terms.length = n at *
  have HL := Lib.hid hl1; clear hl1
  have B0 : Hid (Below w.heap.size w (w.alloc (.cells #[.int .i64 x.const, .slice a n c] 65))) := Lib.hid ((Below.refl _ _).alloc (by simp <;> omega) _)
  have xa0 : (w.alloc (.cells #[.int .i64 x.const, .slice a n c] 65)).cell? ⟨w.heap.size, 0, none⟩ = some (.int .i64 x.const) := by simp [go_sem]
  have xa1 : (w.alloc (.cells #[.int .i64 x.const, .slice a n c] 65)).cell? ⟨w.heap.size, 1, none⟩ = some (.slice a n c) := by simp [go_sem]
  have hW0 : (w.alloc (.cells #[.int .i64 x.const, .slice a n c] 65)).heap.size = w.heap.size + 1 := by simp
  have HC := Lib.hid (HV.out _ B0.out)
  cases hv : validLin x with
  | false =>
    have HF : Hid (printL x = ⟨#[]⟩) := Lib.hid (by unfold printL; rw [hv]; rfl)
    rw [hv] at HC
    go_enter Tryz.func184, Tryz.ntmps184
    go_wp2_with fail
    refine (HC.out).mono ?_
    rintro e w1 ⟨rfl, hb⟩
    go_wp2_with fail
    go_ret
    exact ⟨by rw [HF.out]; rfl, B0.out.trans (hb.mono B0.out.size)⟩
  | true =>
    have HF : Hid (printL x = endS (sumS x.terms) x.const) := Lib.hid (by unfold printL; rw [hv]; rfl)
    have HVp := Lib.hid (valid_parts hv); rw [hv] at HC; clear HV hv
    go_enter Tryz.func184, Tryz.ntmps184
    go_wp2_with fail
    refine HC.out.mono ?_
    rintro e w1 ⟨rfl, hb⟩
    have HW1 : Hid (Below w.heap.size w w1) := Lib.hid (B0.out.trans (hb.mono B0.out.size))
    have HS := Lib.hid (HS0.out.below HW1.out); have g0 := cellB xa0 _ hb; have g1 := cellB xa1 _ hb
    have hlw : w.heap.size < w1.heap.size := cell_lt g1
    clear xa0 xa1 hb HC HS0 B0 hW0
    go_wp2_with fail
    go_loopw [14] (fun i wr => ∃ k : Nat, k ≤ n ∧ i = .int .i64 k ∧ Hid (Bx wr w1.heap.size 9 [.string (sumS (x.terms.take k))]) ∧ Below w1.heap.size w1 wr) (fun i _ => n - (intOf i).toNat)
    case atStart => exact ⟨0, Nat.zero_le _, rfl, Lib.hid (Bx.fresh w1 9 [.string ⟨#[]⟩]), (Below.refl _ _).alloc (Nat.le_refl _) _⟩
    case round =>
      obtain ⟨k, hk, rfl, HX, hB⟩ := hrel; have r0 := cellB g0 _ hB; have r1 := cellB g1 _ hB
      have HEr := Lib.hid (fun (W : World) (hW : Below wr.heap.size wr W) => HE.out W (HW1.out.trans ((hB.trans (hW.mono hB.size)).mono HW1.out.size)))
      have y0 := HX.out.cell 0 _ rfl; have hlp := HX.out.lt
      by_cases hlt : k < n
      · obtain ⟨b, off, rfl, hbW, _⟩ := HS.out.form k hlt
        obtain ⟨c0, c1⟩ := (HS.out.below hB).coef k hlt
        have hkl : k < x.terms.length := by rw [HL.out]; exact hlt
        have HNx := Lib.hid (sumS_next (l := x.terms) hkl); have hbd := HVp.out.2.2.1 _ (getD_mem hkl); have hnz := name_sz (HVp.out.2.2.2.1 _ (getD_mem hkl))
        have hsz := sumS_size HVp.out.2.2.1 HVp.out.2.2.2.1 k (by omega)
        have hl12 := HVp.out.2.2.2.2.2
        generalize x.terms.getD k default = y at *
        generalize sumS (x.terms.take k) = o at *
        have HA : Hid (Below wr.heap.size wr (wr.alloc (.cells #[.string y.v, .int .i64 y.c] 62))) := Lib.hid ((Below.refl _ _).alloc (Nat.le_refl _) _)
        have HCp := Lib.hid (linear_Print_1 y.c hbd.1 hbd.2 y.v w1.heap.size o _ (HX.out.below HA.out hlp) (by omega) (by omega) (HEr.out _ HA.out))
        clear hkl hbd hnz hsz hl12
        go_wp2_with fail
        refine HCp.out.mono ?_
        rintro e w4 ⟨rfl, hbx, hkb⟩
        have HB4 : Hid (Below w1.heap.size w1 w4) := Lib.hid ((hB.trans (HA.out.mono hB.size)).trans (hkb.below (Nat.le_refl _) (by have := hB.size; simp; omega)))
        go_wp2_with fail
        go_roundw
        case rel => exact ⟨k + 1, by omega, by go_num, Lib.hid (by rw [HNx.out]; exact hbx), HB4.out⟩
        case measure => simp [intOf]; omega
      · have HAll : Hid (sumS (x.terms.take k) = sumS x.terms) := Lib.hid (by rw [List.take_of_length_le (by rw [HL.out]; omega)])
        have hsz := sumS_size HVp.out.2.2.1 HVp.out.2.2.2.1 k (by rw [HL.out]; omega)
        have hl12 : k ≤ 12 := by have q := HVp.out.2.2.2.2.2; rw [HL.out] at q; omega
        have hcs := HVp.out.2.2.2.2.1; rw [HAll.out] at HX y0 hsz
        have HEd : Hid (endS (sumS x.terms) x.const = if endB (sumS x.terms) x.const then partS (sumS x.terms) x.const ⟨#[]⟩ else sumS x.terms) := Lib.hid rfl
        have HEb : Hid (endB (sumS x.terms) x.const = ((x.const != 0) || (sumS x.terms).toList.isEmpty)) := Lib.hid rfl
        generalize sumS x.terms = o at *
        have HCp := Lib.hid (linear_Print_1 x.const hcs.1 hcs.2 ⟨#[]⟩ w1.heap.size o _ HX.out (by omega) (by show (0 : Nat) ≤ _; omega) (HEr.out _ (Below.refl _ _)))
        have HWr := Lib.hid (HW1.out.trans (hB.mono HW1.out.size))
        by_cases hc0 : x.const = 0
        · have hd0 : (x.const != 0) = false := by rw [hc0]; rfl
          clear hcs
          cases ho : o.toList.isEmpty with
          | true =>
            have hq : endB o x.const = true := by rw [HEb.out, hd0, ho]; rfl
            clear hc0
            have HF2 : Hid (printL x = partS o x.const ⟨#[]⟩) := Lib.hid (by rw [HF.out, HEd.out, hq]; rfl)
            go_wp2_with fail
            refine HCp.out.mono ?_
            rintro e w4 ⟨rfl, hbx, hkb⟩
            have z0 := hbx.cell 0 _ rfl
            go_wp2_with fail
            go_ret
            exact ⟨by rw [HF2.out]; rfl, HWr.out.trans (hkb.below (by have := HW1.out.size; omega) HWr.out.size)⟩
          | false =>
            have hq : endB o x.const = false := by rw [HEb.out, hd0, ho]; rfl
            have HF2 : Hid (printL x = o) := Lib.hid (by rw [HF.out, HEd.out, hq]; rfl)
            clear hc0
            go_wp2_with fail
            go_ret
            exact ⟨by rw [HF2.out]; rfl, HWr.out⟩
        · have hd0 : (x.const != 0) = true := bne_iff_ne.2 hc0
          have hq : endB o x.const = true := by rw [HEb.out, hd0]; rfl
          clear hc0
          have HF2 : Hid (printL x = partS o x.const ⟨#[]⟩) := Lib.hid (by rw [HF.out, HEd.out, hq]; rfl)
          go_wp2_with fail
          refine HCp.out.mono ?_
          rintro e w4 ⟨rfl, hbx, hkb⟩
          have z0 := hbx.cell 0 _ rfl
          go_wp2_with fail
          go_ret
          exact ⟨by rw [HF2.out]; rfl, HWr.out.trans (hkb.below (by have := HW1.out.size; omega) HWr.out.size)⟩
end Go.Proofs.YtjongcdlginjlaaGreatDoor
namespace Go.Proofs.YtjongcdlginjlaaGreatDoor
open Go.RowKit
def joinS (l : List Str) (sep : Str) : Str := ⟨(Lib.join (l.map (·.data.toList)) sep.data.toList).toArray⟩
theorem lens_le {M : Nat} : ∀ l : List Str, (∀ s ∈ l, s.size ≤ M) → Lib.lens (l.map (·.data.toList)) ≤ l.length * M
  | [], _ => by simp [Lib.lens]
  | s :: l, h => by
    have ih := lens_le l (fun x hx => h x (List.mem_cons_of_mem _ hx))
    have h1 : s.data.toList.length ≤ M := h s (List.mem_cons_self ..)
    have e : Lib.lens ((s :: l).map (·.data.toList)) = s.data.toList.length + Lib.lens (l.map (·.data.toList)) := by simp [Lib.lens]
    rw [e, List.length_cons, Nat.succ_mul]
    omega
theorem join_le {M : Nat} (l : List Str) (sep : Str) (h : ∀ s ∈ l, s.size ≤ M) : (Lib.join (l.map (·.data.toList)) sep.data.toList).length ≤ l.length * (M + sep.size) := by
  cases l with
  | nil => simp [Lib.join_nil]
  | cons s l =>
    have q := lens_le (s :: l) h
    rw [List.map_cons] at q ⊢
    rw [Lib.join_length]
    have e : sep.data.toList.length = sep.size := rfl
    rw [e, List.length_map, Nat.mul_add]
    rw [List.length_cons] at q ⊢
    have : sep.size * l.length ≤ (l.length + 1) * sep.size := by rw [Nat.mul_comm]; exact Nat.mul_le_mul_right _ (by omega)
    omega
theorem joinS_size {M : Nat} (l : List Str) (sep : Str) (h : ∀ s ∈ l, s.size ≤ M) : (joinS l sep).size ≤ l.length * (M + sep.size) := by
  have := join_le l sep h
  show (Lib.join _ _).toArray.size ≤ _
  simpa using this
theorem strings_join {S : Blk} {l : List Str} {a : Option Addr} {n c : Nat} {w : World} (h : Sl RStr S w a n c l) (sep : Str) (hn : n ≤ 1000) (hz : ∀ s ∈ l, s.size ≤ 10000000) (hs : sep.size ≤ 1000) :
    Calls Tryz.prog 135 #[.slice a n c, .string sep] w fun e w' => e = .returned (.string (joinS l sep)) ∧ Below w.heap.size w w' := by
  have hln := h.len
  by_cases h0 : n = 0
  · subst h0
    obtain rfl : l = [] := List.eq_nil_of_length_eq_zero hln
    exact (Tryz.strings_Join_none a c sep w).mono fun e w' ⟨h1, h2⟩ => ⟨h1, h2 ▸ Below.refl _ _⟩
  · obtain ⟨b, off, rfl, hb, _⟩ := h.form 0 (by omega)
    have hlen := join_le l sep hz
    have hm : l.length * (10000000 + sep.size) ≤ 1000 * (10000000 + 1000) := Nat.mul_le_mul (by omega) (by omega)
    subst hln
    have hlim := Nat.le_trans hlen (Nat.le_trans hm (by decide : 1000 * (10000000 + 1000) ≤ 140737488355328))
    exact Tryz.strings_Join b off c l sep w (fun j x hx => by
      obtain ⟨cs, hr, hc⟩ := h.cells j x hx
      have hr : cs = [.string x] := hr
      subst hr
      have := hc 0 _ rfl
      have e : RStr.size = 1 := rfl
      rw [e, Nat.mul_one, Nat.add_zero] at this
      exact this) hb (by omega) h.cap hlim
def rowL (s : Shp) : List Str := if s.row.toList.isEmpty then [] else [s.row ++ ⟨#[46, 46]⟩]
def textH (s : Shp) : Str := ((⟨#[91]⟩ : Str) ++ joinS (rowL s ++ s.dims.map printL) ⟨#[44, 32]⟩) ++ ⟨#[93]⟩
def printH (s : Shp) : Str := if validShp s then textH s else ⟨#[]⟩
theorem map_take_next {α β : Type} [Inhabited α] (f : α → β) {l : List α} {k : Nat} (hk : k < l.length) : (l.take (k + 1)).map f = (l.take k).map f ++ [f (l.getD k default)] := by
  rw [take_one hk, List.map_append]; rfl
theorem parts_size (s : Shp) (hr : s.row.size ≤ 10000) : ∀ x ∈ rowL s ++ s.dims.map printL, x.size ≤ 11000 := by
  intro x hx
  rcases List.mem_append.1 hx with q | q
  · unfold rowL at q
    split at q
    · simp at q
    · rw [List.mem_singleton] at q
      subst q; rw [ByteArray.size_append]
      have e : (⟨#[46, 46]⟩ : Str).size = 2 := rfl
      omega
  · obtain ⟨y, _, rfl⟩ := List.mem_map.1 q
    have := printL_size y
    omega
theorem rowL_len (s : Shp) : (rowL s).length ≤ 1 := by unfold rowL; split <;> simp
theorem textH_size {s : Shp} (hr : s.row.size ≤ 10000) (hd : s.dims.length ≤ 6) : (textH s).size ≤ 100000 := by
  have q := joinS_size (rowL s ++ s.dims.map printL) ⟨#[44, 32]⟩ (parts_size s hr); have q2 := rowL_len s
  have e : (⟨#[44, 32]⟩ : Str).size = 2 := rfl
  rw [e, List.length_append, List.length_map] at q
  have q3 : ((rowL s).length + s.dims.length) * (11000 + 2) ≤ 7 * 11002 := Nat.mul_le_mul (by omega) (by omega)
  unfold textH
  rw [ByteArray.size_append, ByteArray.size_append]
  have e1 : (⟨#[91]⟩ : Str).size = 1 := rfl
  have e2 : (⟨#[93]⟩ : Str).size = 1 := rfl
  omega
set_option maxHeartbeats 2000000 in
theorem shape_text {S : Blk} {x : Shp} {cs : List Value} {w : World} (h : RShp.rd S w cs x) (hz : szH x) (hd6 : x.dims.length ≤ 6) (E : Env w) :
    Calls Tryz.prog 239 #[.agg cs.toArray] w fun e w' => e = .returned (.string (textH x)) ∧ Below w.heap.size w w' := by
  obtain ⟨t, rfl, a, c, rfl, hs⟩ := h; have hm := hs.small; have HZ := Lib.hid hz.2; have hrz := hz.1; have HPs := Lib.hid (parts_size x hz.1)
  have HE := Lib.hid (fun (W : World) (hW : Below w.heap.size w W) => E.below hW)
  have HT : Hid (textH x = ((⟨#[91]⟩ : Str) ++ joinS (rowL x ++ x.dims.map printL) ⟨#[44, 32]⟩) ++ ⟨#[93]⟩) := Lib.hid rfl
  have HJz := Lib.hid (joinS_size (rowL x ++ x.dims.map printL) ⟨#[44, 32]⟩ (parts_size x hz.1)); have HS0 := Lib.hid hs; have hrl := rowL_len x; clear hs E hz
  generalize hn : x.dims.length = n at *
  have HL := Lib.hid hn; clear hn
  have B0 : Hid (Below w.heap.size w (w.alloc (.cells #[.string x.row, .slice a n c] 37))) := Lib.hid ((Below.refl _ _).alloc (by simp <;> omega) _)
  have xa0 : (w.alloc (.cells #[.string x.row, .slice a n c] 37)).cell? ⟨w.heap.size, 0, none⟩ = some (.string x.row) := by simp [go_sem]
  have xa1 : (w.alloc (.cells #[.string x.row, .slice a n c] 37)).cell? ⟨w.heap.size, 1, none⟩ = some (.slice a n c) := by simp [go_sem]
  have hW0 : (w.alloc (.cells #[.string x.row, .slice a n c] 37)).heap.size = w.heap.size + 1 := by simp
  have HS := Lib.hid (HS0.out.below B0.out)
  have HEW := Lib.hid (fun (W' : World) (hW : Below (w.alloc (.cells #[.string x.row, .slice a n c] 37)).heap.size (w.alloc (.cells #[.string x.row, .slice a n c] 37)) W') => HE.out W' (B0.out.trans (hW.mono B0.out.size)))
  clear HS0 HE
  go_enter Tryz.func239, Tryz.ntmps239
  cases hro : x.row.toList.isEmpty with
  | true =>
    have HR0 : Hid (rowL x = []) := Lib.hid (by unfold rowL; rw [hro]; rfl)
    go_wp2_with fail
    generalize (w.alloc (.cells #[.string x.row, .slice a n c] 37)) = W at *
    have HO0 : Hid (Own RStr 9 (fun _ => False) W W.heap.size (.slice none 0 0) (rowL x ++ (x.dims.take 0).map printL)) := Lib.hid (by rw [HR0.out]; exact Own.nil _ _ _ _ _)
    have HB0 : Hid (Below W.heap.size W W) := Lib.hid (Below.refl _ _)
    go_loopw [3, 18] (fun v i wr => ∃ k : Nat, k ≤ n ∧ i = .int .i64 k ∧ Hid (Own RStr 9 (fun _ => False) wr W.heap.size v (rowL x ++ (x.dims.take k).map printL)) ∧ Below W.heap.size W wr) (fun _ i _ => n - (intOf i).toNat)
    case atStart => exact ⟨0, Nat.zero_le _, rfl, HO0, HB0.out⟩
    case round =>
      obtain ⟨k, hk, rfl, HO, hB⟩ := hrel; have hsz := hB.size
      by_cases hlt : k < n
      · obtain ⟨b, off, rfl, hbW, _⟩ := HS.out.form k hlt
        obtain ⟨_, hr, ⟨ta, tc, rfl, _⟩, c0, c1⟩ := (HS.out.below hB).lin k hlt
        have hkl : k < x.dims.length := by rw [HL.out]; exact hlt
        have HNx := Lib.hid (map_take_next printL hkl); have HZk := Lib.hid (HZ.out _ (getD_mem hkl)); have HR := Lib.hid hr
        have HLen : Hid ((rowL x ++ (x.dims.take k).map printL).length ≤ 7) := Lib.hid (by rw [List.length_append, List.length_map, List.length_take]; omega)
        clear hr hkl
        generalize x.dims.getD k default = y at *
        have HA : Hid (Below wr.heap.size wr (wr.alloc (.cells #[.int .i64 y.const, .slice ta y.terms.length tc] 65))) := Lib.hid ((Below.refl _ _).alloc (Nat.le_refl _) _)
        have HC := Lib.hid (linear_Print (RLin.below HR.out HA.out) HZk.out (HEW.out _ (hB.trans (HA.out.mono hB.size))))
        generalize printL y = o at *
        obtain ⟨va, vm, vc, rfl⟩ := HO.out.shape
        go_wp2_with fail
        refine HC.out.mono ?_
        rintro e w4 ⟨rfl, hb4⟩
        have HB4 := Lib.hid (HA.out.trans (hb4.mono HA.out.size)); have hz4 := HB4.out.size
        go_wp2_with (at_builtin; refine app_one elemStr rfl _ _ rfl W.heap.size _ _ rfl ((HO.out.below HB4.out).alloc _) _ o [.string o] rfl rfl (cellsN 9 (by (simp only [drew_heap, alloc_heap, Array.getElem?_push, Array.size_push]; simp))) (by have := HLen.out; omega) (by have := HLen.out; unfold maxLen; omega) (by simp; omega) ?_; intro v9 w9 hown9 hb9 hk9; obtain ⟨a9, m9, c9, rfl⟩ := hown9.shape)
        go_roundw
        case rel => exact ⟨k + 1, by omega, by go_num, Lib.hid (by rw [HNx.out, ← List.append_assoc]; exact hown9), (hB.trans ((HB4.out.alloc HB4.out.size _).mono hB.size)).trans hb9⟩
        case measure => simp [intOf]; omega
      · have HAll : Hid (rowL x ++ (x.dims.take k).map printL = rowL x ++ x.dims.map printL) := Lib.hid (by rw [List.take_of_length_le (by rw [HL.out]; omega)])
        rw [HAll.out] at HO; obtain ⟨va, vc, rfl, hsl⟩ := HO.out.sl
        have hlen : (rowL x ++ x.dims.map printL).length ≤ 7 := by rw [List.length_append, List.length_map, HL.out]; omega
        have HC := Lib.hid (strings_join hsl ⟨#[44, 32]⟩ (by omega) (fun s hs => Nat.le_trans (HPs.out s hs) (by decide)) (by decide))
        have hjz : (joinS (rowL x ++ x.dims.map printL) ⟨#[44, 32]⟩).size ≤ 100000 := by
          have q := HJz.out
          have e : (⟨#[44, 32]⟩ : Str).size = 2 := rfl
          have q3 : (rowL x ++ x.dims.map printL).length * (11000 + (⟨#[44, 32]⟩ : Str).size) ≤ 7 * 11002 := Nat.mul_le_mul hlen (by rw [e]; omega)
          omega
        clear hsl HJz HAll HPs
        generalize joinS (rowL x ++ x.dims.map printL) ⟨#[44, 32]⟩ = j at *
        generalize (rowL x ++ x.dims.map printL).length = m at *
        have hjz2 : ((⟨#[91]⟩ : Str) ++ j).size ≤ 100001 := by rw [ByteArray.size_append]; show 1 + j.size ≤ _; omega
        go_wp2_with fail
        refine HC.out.mono ?_
        rintro e w4 ⟨rfl, hb4⟩
        go_wp2_with fail
        go_ret
        exact ⟨by rw [HT.out]; rfl, B0.out.trans ((hB.trans (hb4.mono hB.size)).mono B0.out.size)⟩
  | false =>
    have HR0 : Hid (rowL x = [x.row ++ ⟨#[46, 46]⟩]) := Lib.hid (by unfold rowL; rw [hro]; rfl)
    have hrs : (x.row ++ (⟨#[46, 46]⟩ : Str)).size ≤ 10002 := by rw [ByteArray.size_append]; show x.row.size + 2 ≤ _; omega
    go_wp2_with (at_builtin; refine app_one elemStr rfl _ _ rfl (w.alloc (.cells #[.string x.row, .slice a n c] 37)).heap.size _ [] rfl (Own.nil _ _ (fun _ => False) _ _) _ (x.row ++ (⟨#[46, 46]⟩ : Str)) [.string (x.row ++ (⟨#[46, 46]⟩ : Str))] rfl rfl (cellsN 9 (by (simp only [drew_heap, alloc_heap, Array.getElem?_push, Array.size_push]; simp))) (by simp) (by unfold maxLen; simp) (by simp) ?_; intro v9 w9 hown9 hb9 hk9; obtain ⟨a9, m9, c9, rfl⟩ := hown9.shape; have HB0 := Lib.hid (((Below.refl _ _).alloc (Nat.le_refl _) _).trans hb9); have r0 := cellB xa0 _ HB0.out; have r1 := cellB xa1 _ HB0.out)
    generalize (w.alloc (.cells #[.string x.row, .slice a n c] 37)) = W at *
    have HO0 : Hid (Own RStr 9 (fun _ => False) w9 W.heap.size (.slice a9 m9 c9) (rowL x ++ (x.dims.take 0).map printL)) := Lib.hid (by rw [HR0.out]; exact hown9)
    clear hown9 hb9 hk9
    go_loopw [3, 18] (fun v i wr => ∃ k : Nat, k ≤ n ∧ i = .int .i64 k ∧ Hid (Own RStr 9 (fun _ => False) wr W.heap.size v (rowL x ++ (x.dims.take k).map printL)) ∧ Below W.heap.size W wr) (fun _ i _ => n - (intOf i).toNat)
    case atStart => exact ⟨0, Nat.zero_le _, rfl, HO0, HB0.out⟩
    case round =>
      obtain ⟨k, hk, rfl, HO, hB⟩ := hrel; have hsz := hB.size
      by_cases hlt : k < n
      · obtain ⟨b, off, rfl, hbW, _⟩ := HS.out.form k hlt
        obtain ⟨_, hr, ⟨ta, tc, rfl, _⟩, c0, c1⟩ := (HS.out.below hB).lin k hlt
        have hkl : k < x.dims.length := by rw [HL.out]; exact hlt
        have HNx := Lib.hid (map_take_next printL hkl); have HZk := Lib.hid (HZ.out _ (getD_mem hkl)); have HR := Lib.hid hr
        have HLen : Hid ((rowL x ++ (x.dims.take k).map printL).length ≤ 7) := Lib.hid (by rw [List.length_append, List.length_map, List.length_take]; omega)
        clear hr hkl
        generalize x.dims.getD k default = y at *
        have HA : Hid (Below wr.heap.size wr (wr.alloc (.cells #[.int .i64 y.const, .slice ta y.terms.length tc] 65))) := Lib.hid ((Below.refl _ _).alloc (Nat.le_refl _) _)
        have HC := Lib.hid (linear_Print (RLin.below HR.out HA.out) HZk.out (HEW.out _ (hB.trans (HA.out.mono hB.size))))
        generalize printL y = o at *
        obtain ⟨va, vm, vc, rfl⟩ := HO.out.shape
        go_wp2_with fail
        refine HC.out.mono ?_
        rintro e w4 ⟨rfl, hb4⟩
        have HB4 := Lib.hid (HA.out.trans (hb4.mono HA.out.size)); have hz4 := HB4.out.size
        go_wp2_with (at_builtin; refine app_one elemStr rfl _ _ rfl W.heap.size _ _ rfl ((HO.out.below HB4.out).alloc _) _ o [.string o] rfl rfl (cellsN 9 (by (simp only [drew_heap, alloc_heap, Array.getElem?_push, Array.size_push]; simp))) (by have := HLen.out; omega) (by have := HLen.out; unfold maxLen; omega) (by simp; omega) ?_; intro v9 w9 hown9 hb9 hk9; obtain ⟨a9, m9, c9, rfl⟩ := hown9.shape)
        go_roundw
        case rel => exact ⟨k + 1, by omega, by go_num, Lib.hid (by rw [HNx.out, ← List.append_assoc]; exact hown9), (hB.trans ((HB4.out.alloc HB4.out.size _).mono hB.size)).trans hb9⟩
        case measure => simp [intOf]; omega
      · have HAll : Hid (rowL x ++ (x.dims.take k).map printL = rowL x ++ x.dims.map printL) := Lib.hid (by rw [List.take_of_length_le (by rw [HL.out]; omega)])
        rw [HAll.out] at HO; obtain ⟨va, vc, rfl, hsl⟩ := HO.out.sl
        have hlen : (rowL x ++ x.dims.map printL).length ≤ 7 := by rw [List.length_append, List.length_map, HL.out]; omega
        have HC := Lib.hid (strings_join hsl ⟨#[44, 32]⟩ (by omega) (fun s hs => Nat.le_trans (HPs.out s hs) (by decide)) (by decide))
        have hjz : (joinS (rowL x ++ x.dims.map printL) ⟨#[44, 32]⟩).size ≤ 100000 := by
          have q := HJz.out
          have e : (⟨#[44, 32]⟩ : Str).size = 2 := rfl
          have q3 : (rowL x ++ x.dims.map printL).length * (11000 + (⟨#[44, 32]⟩ : Str).size) ≤ 7 * 11002 := Nat.mul_le_mul hlen (by rw [e]; omega)
          omega
        clear hsl HJz HAll HPs
        generalize joinS (rowL x ++ x.dims.map printL) ⟨#[44, 32]⟩ = j at *
        generalize (rowL x ++ x.dims.map printL).length = m at *
        have hjz2 : ((⟨#[91]⟩ : Str) ++ j).size ≤ 100001 := by rw [ByteArray.size_append]; show 1 + j.size ≤ _; omega
        go_wp2_with fail
        refine HC.out.mono ?_
        rintro e w4 ⟨rfl, hb4⟩
        go_wp2_with fail
        go_ret
        exact ⟨by rw [HT.out]; rfl, B0.out.trans ((hB.trans (hb4.mono hB.size)).mono B0.out.size)⟩
theorem shape_Print {S : Blk} {x : Shp} {cs : List Value} {w : World} (h : RShp.rd S w cs x) (hz : szH x) (E : Env w) :
    Calls Tryz.prog 217 #[.agg cs.toArray] w fun e w' => e = .returned (.tuple #[.string (printH x), .int .i64 (if validShp x then 0 else 1)]) ∧ Below w.heap.size w w' := by
  have HV : Hid (∀ W, Below w.heap.size w W → Calls Tryz.prog 128 #[.agg cs.toArray] W fun e w' => e = .returned (.bool (validShp x)) ∧ Below W.heap.size W w') := Lib.hid (fun W hW => shape_Valid (RShp.below h hW) hz (E.below hW))
  have HX : Hid (validShp x = true → ∀ W, Below w.heap.size w W → Calls Tryz.prog 239 #[.agg cs.toArray] W fun e w' => e = .returned (.string (textH x)) ∧ Below W.heap.size W w') := Lib.hid (fun hv W hW => shape_text (RShp.below h hW) hz (shp_parts hv).2.1 (E.below hW))
  obtain ⟨t, rfl, a, c, rfl, hs⟩ := h; clear hs E hz
  have B0 : Hid (Below w.heap.size w (w.alloc (.cells #[.string x.row, .slice a x.dims.length c] 37))) := Lib.hid ((Below.refl _ _).alloc (by simp <;> omega) _)
  have xa0 : (w.alloc (.cells #[.string x.row, .slice a x.dims.length c] 37)).cell? ⟨w.heap.size, 0, none⟩ = some (.string x.row) := by simp [go_sem]
  have xa1 : (w.alloc (.cells #[.string x.row, .slice a x.dims.length c] 37)).cell? ⟨w.heap.size, 1, none⟩ = some (.slice a x.dims.length c) := by simp [go_sem]
  have hW0 : (w.alloc (.cells #[.string x.row, .slice a x.dims.length c] 37)).heap.size = w.heap.size + 1 := by simp
  have HC := Lib.hid (HV.out _ B0.out)
  cases hv : validShp x with
  | false =>
    have HF : Hid (printH x = ⟨#[]⟩) := Lib.hid (by unfold printH; rw [hv]; rfl)
    rw [hv] at HC
    go_enter Tryz.func217, Tryz.ntmps217
    go_wp2_with fail
    refine (HC.out).mono ?_
    rintro e w1 ⟨rfl, hb⟩
    go_wp2_with fail
    go_returns
    exact ⟨by rw [HF.out]; rfl, B0.out.trans (hb.mono B0.out.size)⟩
  | true =>
    have HF : Hid (printH x = textH x) := Lib.hid (by unfold printH; rw [hv]; rfl)
    have HX2 := Lib.hid (HX.out hv); rw [hv] at HC
    go_enter Tryz.func217, Tryz.ntmps217
    go_wp2_with fail
    refine (HC.out).mono ?_
    rintro e w1 ⟨rfl, hb⟩
    have HW1 := Lib.hid (B0.out.trans (hb.mono B0.out.size)); have g0 := cellB xa0 _ hb; have g1 := cellB xa1 _ hb
    have hlw : w.heap.size < w1.heap.size := cell_lt g1
    have HC2 := Lib.hid (HX2.out _ HW1.out)
    go_wp2_with fail
    refine (HC2.out).mono ?_
    rintro e w2 ⟨rfl, hb2⟩
    go_wp2_with fail
    go_returns
    exact ⟨by rw [HF.out]; rfl, HW1.out.trans (hb2.mono HW1.out.size)⟩
def textT (t : Typ) : Str := if (printH t.shape).toList == [91, 93] then t.elem else printH t.shape ++ t.elem
theorem types_text {S : Blk} {x : Typ} {cs : List Value} {w : World} (h : RTyp.rd S w cs x) (hz : szT x) (E : Env w) :
    Calls Tryz.prog 182 #[.agg cs.toArray] w fun e w' => e = .returned (.string (textT x)) ∧ Below w.heap.size w w' := by
  obtain ⟨t, rfl, a, c, rfl, hs⟩ := h
  have HX : Hid (∀ W, Below w.heap.size w W → Calls Tryz.prog 217 #[.agg #[.string x.shape.row, .slice a x.shape.dims.length c]] W fun e w' => e = .returned (.tuple #[.string (printH x.shape), .int .i64 (if validShp x.shape then 0 else 1)]) ∧ Below W.heap.size W w') :=
    Lib.hid (fun W hW => shape_Print (cs := [.string x.shape.row, .slice a x.shape.dims.length c]) ⟨_, rfl, a, c, rfl, hs.below hW⟩ hz.2 (E.below hW))
  have hez : x.elem.size ≤ 10000 := hz.1
  have hpz : (printH x.shape).size ≤ 100000 := by
    unfold printH
    split
    · rename_i hv; exact textH_size hz.2.1 (shp_parts hv).2.1
    · exact Nat.zero_le _
  have HT : Hid (textT x = if (printH x.shape).toList == [91, 93] then x.elem else printH x.shape ++ x.elem) := Lib.hid rfl
  clear hs E hz
  have B0 : Hid (Below w.heap.size w (w.alloc (.cells #[.string x.elem, .string x.shape.row, .slice a x.shape.dims.length c] 39))) := Lib.hid ((Below.refl _ _).alloc (by simp <;> omega) _)
  have xa0 : (w.alloc (.cells #[.string x.elem, .string x.shape.row, .slice a x.shape.dims.length c] 39)).cell? ⟨w.heap.size, 0, none⟩ = some (.string x.elem) := by simp [go_sem]
  have xa1 : (w.alloc (.cells #[.string x.elem, .string x.shape.row, .slice a x.shape.dims.length c] 39)).cell? ⟨w.heap.size, 1, none⟩ = some (.string x.shape.row) := by simp [go_sem]
  have xa2 : (w.alloc (.cells #[.string x.elem, .string x.shape.row, .slice a x.shape.dims.length c] 39)).cell? ⟨w.heap.size, 2, none⟩ = some (.slice a x.shape.dims.length c) := by simp [go_sem]
  have hW0 : (w.alloc (.cells #[.string x.elem, .string x.shape.row, .slice a x.shape.dims.length c] 39)).heap.size = w.heap.size + 1 := by simp
  have HC := Lib.hid (HX.out _ B0.out)
  generalize printH x.shape = p at *
  generalize (if validShp x.shape then (0 : Int) else 1) = ev at *
  by_cases hq : (p.toList == [91, 93]) = true
  · have HF : Hid (textT x = x.elem) := Lib.hid (by rw [HT.out, if_pos hq])
    go_enter Tryz.func182, Tryz.ntmps182
    go_wp2_with fail
    refine (HC.out).mono ?_
    rintro e w1 ⟨rfl, hb⟩
    have g0 := cellB xa0 _ hb
    go_wp2_with fail
    go_ret
    exact ⟨by rw [HF.out]; rfl, B0.out.trans (hb.mono B0.out.size)⟩
  · have HF : Hid (textT x = p ++ x.elem) := Lib.hid (by rw [HT.out, if_neg hq])
    have hq : (p.toList == [91, 93]) = false := by simpa using hq
    go_enter Tryz.func182, Tryz.ntmps182
    go_wp2_with fail
    refine (HC.out).mono ?_
    rintro e w1 ⟨rfl, hb⟩
    have g0 := cellB xa0 _ hb
    go_wp2_with fail
    go_ret
    exact ⟨by rw [HF.out]; rfl, B0.out.trans (hb.mono B0.out.size)⟩
end Go.Proofs.YtjongcdlginjlaaGreatDoor
namespace Go.Proofs.YtjongcdlginjlaaGreatDoor
open Go.RowKit
set_option maxHeartbeats 2000000 in
theorem joinedTyp {S : Blk} (l : List Typ) (a : Option Addr) (n c : Nat) (w : World) (h : Sl RTyp S w a n c l) (g : FuncId) (hen : Ent1 g) (pr : Typ → Str) (hp : ∀ (W : World) (x : Typ) (cs : List Value), Below w.heap.size w W → x ∈ l → RTyp.rd S W cs x → Calls Tryz.prog g #[.agg cs.toArray] W fun e w' => e = .returned (.string (pr x)) ∧ Below W.heap.size W w') (hsz : ∀ x ∈ l, (pr x).size ≤ 1000000) (hn : n ≤ 100) :
    Calls Tryz.prog 181 #[.slice a n c, .func (.func g) #[] #[]] w fun e w' => e = .returned (.string (joinS (l.map pr) ⟨#[44, 32]⟩)) ∧ Below w.heap.size w w' := by
  have HS := Lib.hid h; have HL := Lib.hid h.len; have HP := Lib.hid hp; have HZ := Lib.hid hsz; have hm := h.small; clear h hp hsz
  go_enter Tryz.func181, Tryz.ntmps181
  go_wp2_with fail
  go_loopw [5, 10] (fun v i wr => ∃ k : Nat, k ≤ n ∧ i = .int .i64 k ∧ Hid (Own RStr 9 (fun _ => False) wr w.heap.size v ((l.take k).map pr)) ∧ Below w.heap.size w wr) (fun _ i _ => n - (intOf i).toNat)
  case atStart => exact ⟨0, Nat.zero_le _, rfl, Own.nil _ _ _ _ _, Below.refl _ _⟩
  case round =>
    obtain ⟨k, hk, rfl, HO, hB⟩ := hrel; have hz := hB.size
    by_cases hlt : k < n
    · obtain ⟨b, off, rfl, hbW, _⟩ := HS.out.form k hlt
      obtain ⟨_, hr, ⟨ta, tc, rfl, _⟩, c0, c1, c2⟩ := (HS.out.below hB).typ k hlt
      have hkl : k < l.length := by rw [HL.out]; exact hlt
      have HNx := Lib.hid (map_take_next pr hkl); have HM := Lib.hid (getD_mem hkl); have HR := Lib.hid hr
      have HLen : Hid (((l.take k).map pr).length ≤ 100) := Lib.hid (by rw [List.length_map, List.length_take]; omega)
      clear hr hkl
      generalize l.getD k default = y at *
      have HA : Hid (Below wr.heap.size wr (wr.alloc (.cells [.string y.elem, .string y.shape.row, .slice ta y.shape.dims.length tc].toArray 39))) := Lib.hid ((Below.refl _ _).alloc (Nat.le_refl _) _)
      have HC := Lib.hid (HP.out _ _ _ (hB.trans (HA.out.mono hB.size)) HM.out (RTyp.below HR.out HA.out))
      generalize pr y = o at *
      obtain ⟨va, vm, vc, rfl⟩ := HO.out.shape
      go_wp2_with (first | (go_at_fn g; refine HC.out.mono ?_; rintro e w4 ⟨rfl, hb4⟩; have HB4 := Lib.hid (HA.out.trans (hb4.mono HA.out.size)); have hz4 := HB4.out.size) | (at_builtin; refine app_one elemStr rfl _ _ rfl w.heap.size _ _ rfl ((HO.out.below HB4.out).alloc _) _ o [.string o] rfl rfl (cellsN 9 (by (simp only [drew_heap, alloc_heap, Array.getElem?_push, Array.size_push]; simp))) (by have := HLen.out; omega) (by have := HLen.out; unfold maxLen; omega) (by simp; omega) ?_; intro v9 w9 hown9 hb9 hk9; obtain ⟨a9, m9, c9, rfl⟩ := hown9.shape))
      go_roundw
      case rel => exact ⟨k + 1, by omega, by go_num, Lib.hid (by rw [HNx.out]; exact hown9), (hB.trans ((HB4.out.alloc HB4.out.size _).mono hB.size)).trans hb9⟩
      case measure => simp [intOf]; omega
    · have HAll : Hid ((l.take k).map pr = l.map pr) := Lib.hid (by rw [List.take_of_length_le (by rw [HL.out]; omega)])
      rw [HAll.out] at HO; obtain ⟨va, vc, rfl, hsl⟩ := HO.out.sl
      have hlen : (l.map pr).length ≤ 100 := by rw [List.length_map, HL.out]; exact hn
      have HC := Lib.hid (strings_join hsl ⟨#[44, 32]⟩ (by omega) (fun s hs => by obtain ⟨x, hx, rfl⟩ := List.mem_map.1 hs; exact Nat.le_trans (HZ.out x hx) (by decide)) (by decide))
      clear hsl HAll
      generalize (l.map pr).length = m at *
      go_wp2_with fail
      refine HC.out.mono ?_
      rintro e w4 ⟨rfl, hb4⟩
      go_wp2_with fail
      go_ret
      exact ⟨rfl, hB.trans (hb4.mono hB.size)⟩
set_option maxHeartbeats 2000000 in
theorem joinedLin {S : Blk} (l : List Lin) (a : Option Addr) (n c : Nat) (w : World) (h : Sl RLin S w a n c l) (g : FuncId) (hen : Ent1 g) (pr : Lin → Str) (hp : ∀ (W : World) (x : Lin) (cs : List Value), Below w.heap.size w W → x ∈ l → RLin.rd S W cs x → Calls Tryz.prog g #[.agg cs.toArray] W fun e w' => e = .returned (.string (pr x)) ∧ Below W.heap.size W w') (hsz : ∀ x ∈ l, (pr x).size ≤ 1000000) (hn : n ≤ 100) :
    Calls Tryz.prog 183 #[.slice a n c, .func (.func g) #[] #[]] w fun e w' => e = .returned (.string (joinS (l.map pr) ⟨#[44, 32]⟩)) ∧ Below w.heap.size w w' := by
  have HS := Lib.hid h; have HL := Lib.hid h.len; have HP := Lib.hid hp; have HZ := Lib.hid hsz; have hm := h.small; clear h hp hsz
  go_enter Tryz.func183, Tryz.ntmps183
  go_wp2_with fail
  go_loopw [5, 10] (fun v i wr => ∃ k : Nat, k ≤ n ∧ i = .int .i64 k ∧ Hid (Own RStr 9 (fun _ => False) wr w.heap.size v ((l.take k).map pr)) ∧ Below w.heap.size w wr) (fun _ i _ => n - (intOf i).toNat)
  case atStart => exact ⟨0, Nat.zero_le _, rfl, Own.nil _ _ _ _ _, Below.refl _ _⟩
  case round =>
    obtain ⟨k, hk, rfl, HO, hB⟩ := hrel; have hz := hB.size
    by_cases hlt : k < n
    · obtain ⟨b, off, rfl, hbW, _⟩ := HS.out.form k hlt
      obtain ⟨_, hr, ⟨ta, tc, rfl, _⟩, c0, c1⟩ := (HS.out.below hB).lin k hlt
      have hkl : k < l.length := by rw [HL.out]; exact hlt
      have HNx := Lib.hid (map_take_next pr hkl); have HM := Lib.hid (getD_mem hkl); have HR := Lib.hid hr
      have HLen : Hid (((l.take k).map pr).length ≤ 100) := Lib.hid (by rw [List.length_map, List.length_take]; omega)
      clear hr hkl
      generalize l.getD k default = y at *
      have HA : Hid (Below wr.heap.size wr (wr.alloc (.cells [.int .i64 y.const, .slice ta y.terms.length tc].toArray 65))) := Lib.hid ((Below.refl _ _).alloc (Nat.le_refl _) _)
      have HC := Lib.hid (HP.out _ _ _ (hB.trans (HA.out.mono hB.size)) HM.out (RLin.below HR.out HA.out))
      generalize pr y = o at *
      obtain ⟨va, vm, vc, rfl⟩ := HO.out.shape
      go_wp2_with (first | (go_at_fn g; refine HC.out.mono ?_; rintro e w4 ⟨rfl, hb4⟩; have HB4 := Lib.hid (HA.out.trans (hb4.mono HA.out.size)); have hz4 := HB4.out.size) | (at_builtin; refine app_one elemStr rfl _ _ rfl w.heap.size _ _ rfl ((HO.out.below HB4.out).alloc _) _ o [.string o] rfl rfl (cellsN 9 (by (simp only [drew_heap, alloc_heap, Array.getElem?_push, Array.size_push]; simp))) (by have := HLen.out; omega) (by have := HLen.out; unfold maxLen; omega) (by simp; omega) ?_; intro v9 w9 hown9 hb9 hk9; obtain ⟨a9, m9, c9, rfl⟩ := hown9.shape))
      go_roundw
      case rel => exact ⟨k + 1, by omega, by go_num, Lib.hid (by rw [HNx.out]; exact hown9), (hB.trans ((HB4.out.alloc HB4.out.size _).mono hB.size)).trans hb9⟩
      case measure => simp [intOf]; omega
    · have HAll : Hid ((l.take k).map pr = l.map pr) := Lib.hid (by rw [List.take_of_length_le (by rw [HL.out]; omega)])
      rw [HAll.out] at HO; obtain ⟨va, vc, rfl, hsl⟩ := HO.out.sl
      have hlen : (l.map pr).length ≤ 100 := by rw [List.length_map, HL.out]; exact hn
      have HC := Lib.hid (strings_join hsl ⟨#[44, 32]⟩ (by omega) (fun s hs => by obtain ⟨x, hx, rfl⟩ := List.mem_map.1 hs; exact Nat.le_trans (HZ.out x hx) (by decide)) (by decide))
      clear hsl HAll
      generalize (l.map pr).length = m at *
      go_wp2_with fail
      refine HC.out.mono ?_
      rintro e w4 ⟨rfl, hb4⟩
      go_wp2_with fail
      go_ret
      exact ⟨rfl, hB.trans (hb4.mono hB.size)⟩
end Go.Proofs.YtjongcdlginjlaaGreatDoor
namespace Go.Proofs.YtjongcdlginjlaaGreatDoor
open Go.RowKit
def headS (s : Sch) : Str := (((⟨#[40]⟩ : Str) ++ joinS (s.params.map textT) ⟨#[44, 32]⟩) ++ ⟨#[41, 32, 45, 62, 32]⟩) ++ textT s.result
def whereS (s : Sch) : Str := (⟨#[32, 119, 104, 101, 114, 101, 32]⟩ : Str) ++ joinS (s.wh.map printL) ⟨#[44, 32]⟩
def textS (s : Sch) : Str := if 0 < s.wh.length then headS s ++ whereS s else headS s
def printS (s : Sch) : Str := if validSch s then textS s else ⟨#[]⟩
theorem printH_size {s : Shp} (hz : szH s) : (printH s).size ≤ 100000 := by
  unfold printH
  split
  · rename_i hv; exact textH_size hz.1 (shp_parts hv).2.1
  · exact Nat.zero_le _
theorem textT_size {t : Typ} (hz : szT t) : (textT t).size ≤ 110000 := by
  have h1 := printH_size hz.2; have h2 := hz.1
  unfold textT
  split
  · omega
  · rw [ByteArray.size_append]; omega
theorem joinT_size {s : Sch} (hz : szS s) (hl : s.params.length ≤ 12) : (joinS (s.params.map textT) ⟨#[44, 32]⟩).size ≤ 2000000 := by
  have q := joinS_size (M := 110000) (s.params.map textT) ⟨#[44, 32]⟩ (fun x hx => by
    obtain ⟨t, ht, rfl⟩ := List.mem_map.1 hx
    exact textT_size (hz.1 t ht))
  rw [List.length_map] at q
  have q3 : s.params.length * (110000 + (⟨#[44, 32]⟩ : Str).size) ≤ 12 * 110002 := Nat.mul_le_mul hl (Nat.le_refl _)
  omega
theorem joinL_size {s : Sch} (hl : s.wh.length ≤ 60) : (joinS (s.wh.map printL) ⟨#[44, 32]⟩).size ≤ 200000 := by
  have q := joinS_size (M := 2000) (s.wh.map printL) ⟨#[44, 32]⟩ (fun x hx => by
    obtain ⟨t, ht, rfl⟩ := List.mem_map.1 hx
    exact printL_size t)
  rw [List.length_map] at q
  have q3 : s.wh.length * (2000 + (⟨#[44, 32]⟩ : Str).size) ≤ 60 * 2002 := Nat.mul_le_mul hl (Nat.le_refl _)
  omega
theorem printS_size {s : Sch} (hz : szS s) : (printS s).size ≤ 3000000 := by
  unfold printS
  split
  · rename_i hv
    obtain ⟨h1, h2, _⟩ := validSch_parts hv; have q1 := joinT_size hz h1; have q2 := joinL_size (s := s) h2; have q3 := textT_size hz.2.1
    have e1 : (headS s).size ≤ 2110006 := by
      unfold headS
      rw [ByteArray.size_append, ByteArray.size_append, ByteArray.size_append]
      show 1 + _ + 5 + _ ≤ _
      omega
    have e2 : (whereS s).size ≤ 200007 := by
      unfold whereS
      rw [ByteArray.size_append]
      show 7 + _ ≤ _
      omega
    unfold textS
    split
    · rw [ByteArray.size_append]; omega
    · omega
  · exact Nat.zero_le _
set_option maxHeartbeats 2000000 in
theorem types_PrintScheme {S : Blk} {x : Sch} {cs : List Value} {w : World} (h : RSch.rd S w cs x) (hz : szS x) (E : Env w) :
    Calls Tryz.prog 134 #[.agg cs.toArray] w fun e w' => e = .returned (.tuple #[.string (printS x), .int .i64 (if validSch x then 0 else 1)]) ∧ Below w.heap.size w w' := by
  have HV : Hid (∀ W, Below w.heap.size w W → Calls Tryz.prog 36 #[.agg cs.toArray] W fun e w' => e = .returned (.bool (validSch x)) ∧ Below W.heap.size W w') := Lib.hid (fun W hW => types_ValidScheme (RSch.below h hW) hz (E.below hW))
  have HE := Lib.hid (fun (W : World) (hW : Below w.heap.size w W) => E.below hW)
  have HZ := Lib.hid hz; obtain ⟨p, t, q, rfl, ⟨ap, cp, rfl, hp⟩, ⟨at_, ct, rfl, ht⟩, ⟨aq, cq, rfl, hq⟩⟩ := h; have HPs := Lib.hid hp; have HTs := Lib.hid ht; have HQs := Lib.hid hq; have hmq := hq.small; clear hp ht hq E hz
  have B0 : Hid (Below w.heap.size w (w.alloc (.cells #[.slice ap x.params.length cp, .string x.result.elem, .string x.result.shape.row, .slice at_ x.result.shape.dims.length ct, .slice aq x.wh.length cq] 41))) := Lib.hid ((Below.refl _ _).alloc (by simp <;> omega) _)
  have xa0 : (w.alloc (.cells #[.slice ap x.params.length cp, .string x.result.elem, .string x.result.shape.row, .slice at_ x.result.shape.dims.length ct, .slice aq x.wh.length cq] 41)).cell? ⟨w.heap.size, 0, none⟩ = some (.slice ap x.params.length cp) := by simp [go_sem]
  have xa1 : (w.alloc (.cells #[.slice ap x.params.length cp, .string x.result.elem, .string x.result.shape.row, .slice at_ x.result.shape.dims.length ct, .slice aq x.wh.length cq] 41)).cell? ⟨w.heap.size, 1, none⟩ = some (.string x.result.elem) := by simp [go_sem]
  have xa2 : (w.alloc (.cells #[.slice ap x.params.length cp, .string x.result.elem, .string x.result.shape.row, .slice at_ x.result.shape.dims.length ct, .slice aq x.wh.length cq] 41)).cell? ⟨w.heap.size, 2, none⟩ = some (.string x.result.shape.row) := by simp [go_sem]
  have xa3 : (w.alloc (.cells #[.slice ap x.params.length cp, .string x.result.elem, .string x.result.shape.row, .slice at_ x.result.shape.dims.length ct, .slice aq x.wh.length cq] 41)).cell? ⟨w.heap.size, 3, none⟩ = some (.slice at_ x.result.shape.dims.length ct) := by simp [go_sem]
  have xa4 : (w.alloc (.cells #[.slice ap x.params.length cp, .string x.result.elem, .string x.result.shape.row, .slice at_ x.result.shape.dims.length ct, .slice aq x.wh.length cq] 41)).cell? ⟨w.heap.size, 4, none⟩ = some (.slice aq x.wh.length cq) := by simp [go_sem]
  have hW0 : (w.alloc (.cells #[.slice ap x.params.length cp, .string x.result.elem, .string x.result.shape.row, .slice at_ x.result.shape.dims.length ct, .slice aq x.wh.length cq] 41)).heap.size = w.heap.size + 1 := by simp
  have HC := Lib.hid (HV.out _ B0.out)
  cases hv : validSch x with
  | false =>
    have HF : Hid (printS x = ⟨#[]⟩) := Lib.hid (by unfold printS; rw [hv]; rfl)
    rw [hv] at HC; clear HV
    go_enter Tryz.func134, Tryz.ntmps134
    go_wp2_with fail
    refine (HC.out).mono ?_
    rintro e w1 ⟨rfl, hb⟩
    go_wp2_with fail
    go_returns
    exact ⟨by rw [HF.out]; rfl, B0.out.trans (hb.mono B0.out.size)⟩
  | true =>
    have HF : Hid (printS x = textS x) := Lib.hid (by unfold printS; rw [hv]; rfl)
    obtain ⟨hl1, hl2, _⟩ := validSch_parts hv; have hjt := joinT_size HZ.out hl1; have hjl := joinL_size (s := x) hl2; have htr := textT_size HZ.out.2.1
    have HH : Hid (headS x = (((⟨#[40]⟩ : Str) ++ joinS (x.params.map textT) ⟨#[44, 32]⟩) ++ ⟨#[41, 32, 45, 62, 32]⟩) ++ textT x.result) := Lib.hid rfl
    have HW : Hid (whereS x = (⟨#[32, 119, 104, 101, 114, 101, 32]⟩ : Str) ++ joinS (x.wh.map printL) ⟨#[44, 32]⟩) := Lib.hid rfl
    have HX0 : Hid (x.wh.length = 0 → textS x = headS x) := Lib.hid (fun q => by unfold textS; rw [if_neg (by omega)])
    have HX1 : Hid (0 < x.wh.length → textS x = headS x ++ whereS x) := Lib.hid (fun q => by unfold textS; rw [if_pos q])
    rw [hv] at HC; clear HV hv
    go_enter Tryz.func134, Tryz.ntmps134
    go_wp2_with fail
    refine (HC.out).mono ?_
    rintro e w1 ⟨rfl, hb⟩
    have HW1 : Hid (Below w.heap.size w w1) := Lib.hid (B0.out.trans (hb.mono B0.out.size))
    have g0 := cellB xa0 _ hb; have g1 := cellB xa1 _ hb; have g2 := cellB xa2 _ hb; have g3 := cellB xa3 _ hb; have g4 := cellB xa4 _ hb; clear xa0 xa1 xa2 xa3 xa4 hb HC B0 hW0
    have HCj := Lib.hid (fun t9 : Later w1 => joinedTyp x.params ap _ cp t9.w (HPs.out.below (HW1.out.trans (t9.b.mono HW1.out.size))) 182 (enter_any Tryz.func182 rfl rfl) textT (fun W y cs hW hm hr => types_text hr (HZ.out.1 y hm) (HE.out W ((HW1.out.trans (t9.b.mono HW1.out.size)).trans (hW.mono (HW1.out.trans (t9.b.mono HW1.out.size)).size)))) (fun y hy => Nat.le_trans (textT_size (HZ.out.1 y hy)) (by decide)) (by omega))
    have HCt := Lib.hid (fun t9 : Later w1 => types_text (x := x.result) (cs := [.string x.result.elem, .string x.result.shape.row, .slice at_ x.result.shape.dims.length ct]) (S := S) (w := t9.w) ⟨_, rfl, at_, ct, rfl, HTs.out.below (HW1.out.trans (t9.b.mono HW1.out.size))⟩ HZ.out.2.1 (HE.out _ (HW1.out.trans (t9.b.mono HW1.out.size))))
    have HCl := Lib.hid (fun (W : World) (hW : Below w1.heap.size w1 W) => joinedLin x.wh aq _ cq W (HQs.out.below (HW1.out.trans (hW.mono HW1.out.size))) 184 (enter_any Tryz.func184 rfl rfl) printL (fun W' y cs hW' hm hr => linear_Print hr (HZ.out.2.2 y hm) (HE.out W' ((HW1.out.trans (hW.mono HW1.out.size)).trans (hW'.mono (HW1.out.trans (hW.mono HW1.out.size)).size)))) (fun y hy => Nat.le_trans (printL_size y) (by decide)) (by omega))
    generalize joinS (x.params.map textT) ⟨#[44, 32]⟩ = jt at *
    generalize joinS (x.wh.map printL) ⟨#[44, 32]⟩ = jl at *
    generalize textT x.result = tr at *
    have hs1 : ((⟨#[40]⟩ : Str) ++ jt).size ≤ 2000001 := by rw [ByteArray.size_append]; show 1 + _ ≤ _; omega
    have hs2 : (((⟨#[40]⟩ : Str) ++ jt) ++ (⟨#[41, 32, 45, 62, 32]⟩ : Str)).size ≤ 2000006 := by rw [ByteArray.size_append]; show _ + 5 ≤ _; omega
    have hs3 : ((((⟨#[40]⟩ : Str) ++ jt) ++ (⟨#[41, 32, 45, 62, 32]⟩ : Str)) ++ tr).size ≤ 2110006 := by rw [ByteArray.size_append]; omega
    have hs4 : ((⟨#[32, 119, 104, 101, 114, 101, 32]⟩ : Str) ++ jl).size ≤ 200007 := by rw [ByteArray.size_append]; show 7 + _ ≤ _; omega
    have G0 := Later.cell g0; have G1 := Later.cell g1; have G2 := Later.cell g2; have G3 := Later.cell g3; have G4 := Later.cell g4
    go_wp2_with fail
    refine wp_region_later (by kernel_rfl) (by kernel_rfl) ?_
    repeat (go_big_quiet_step (first | fail | exact Later.call (HCj.out _) | exact Later.call (HCt.out _)))
    refine wpQuiet_nil ?_
    rintro _ ⟨t9, rfl⟩
    have HB9 := Lib.hid t9.b; have y4 := G4 t9
    generalize t9.w = w2 at *
    clear G0 G1 G2 G3 G4 g0 g1 g2 g3 g4
    generalize hnw : x.wh.length = nw at *
    by_cases hw : nw = 0
    · have HF2 : Hid (printS x = headS x) := Lib.hid (by rw [HF.out, HX0.out hw])
      have hw2 : ¬((0 : Int) < (nw : Int)) := by omega
      clear hw hnw
      go_wp2_with fail
      go_returns
      exact ⟨by rw [HF2.out, HH.out]; rfl, HW1.out.trans (HB9.out.mono HW1.out.size)⟩
    · have HF2 : Hid (printS x = headS x ++ whereS x) := Lib.hid (by rw [HF.out, HX1.out (by omega)])
      have hw2 : (0 : Int) < (nw : Int) := by omega
      have HC3 := Lib.hid (HCl.out _ HB9.out); clear hw hnw
      go_wp2_with fail
      refine HC3.out.mono ?_
      rintro e w3 ⟨rfl, hb3⟩
      go_wp2_with fail
      go_returns
      exact ⟨by rw [HF2.out, HH.out, HW.out]; rfl, HW1.out.trans ((HB9.out.trans (hb3.mono HB9.out.size)).mono HW1.out.size)⟩
end Go.Proofs.YtjongcdlginjlaaGreatDoor
namespace Go.Proofs.YtjongcdlginjlaaGreatDoor
open Go.RowKit
theorem validIfc_bad {i : Ifc} {k : Nat} (hk : k < i.entries.length) (h : entAt i.entries k = false) : validIfc i = false := by
  unfold validIfc
  rw [all_stop hk h]; rfl
theorem validIfc_good {i : Ifc} (h : ∀ k, k < i.entries.length → entAt i.entries k = true) : validIfc i = (isNameB i.module_ && decide (i.entries.length ≤ 60)) := by
  unfold validIfc
  rw [all_done h]; rfl
set_option maxHeartbeats 2000000 in
theorem signature_Valid {S : Blk} {x : Ifc} {a : Option Addr} {c : Nat} {w : World} (hs : Sl REnt S w a x.entries.length c x.entries) (hz : ∀ e ∈ x.entries, szS e.scheme ∧ e.name.size ≤ 281474976710656) (hmz : x.module_.size ≤ 281474976710656) (E : Env w) :
    Calls Tryz.prog 13 #[.agg #[.string x.module_, .slice a x.entries.length c]] w fun e w' => e = .returned (.bool (validIfc x)) ∧ Below w.heap.size w w' := by
  have hm := hs.small; have HZ := Lib.hid hz; have H := Lib.hid hs; have EE := Lib.hid E; clear hz hs E
  generalize hl1 : x.entries.length = n at *
  have HL := Lib.hid hl1; clear hl1
  have B0 : Hid (Below w.heap.size w (w.alloc (.cells #[.string x.module_, .slice a n c] 29))) := Lib.hid ((Below.refl _ _).alloc (by simp <;> omega) _)
  have xa0 : (w.alloc (.cells #[.string x.module_, .slice a n c] 29)).cell? ⟨w.heap.size, 0, none⟩ = some (.string x.module_) := by simp [go_sem]
  have xa1 : (w.alloc (.cells #[.string x.module_, .slice a n c] 29)).cell? ⟨w.heap.size, 1, none⟩ = some (.slice a n c) := by simp [go_sem]
  have hW0 : (w.alloc (.cells #[.string x.module_, .slice a n c] 29)).heap.size = w.heap.size + 1 := by simp
  go_enter Tryz.func13, Tryz.ntmps13
  go_wp2_with fail
  generalize (w.alloc (.cells #[.string x.module_, .slice a n c] 29)) = W at *
  have H0 := Lib.hid (H.out.below B0.out); have E0 := Lib.hid (EE.out.below B0.out)
  go_loopw [8] (fun i wr => ∃ k : Nat, k ≤ n ∧ i = .int .i64 k ∧ Hid (∀ j, j < k → entAt x.entries j = true) ∧ Below W.heap.size W wr) (fun i _ => n - (intOf i).toNat)
  case atStart => exact ⟨0, Nat.zero_le _, rfl, fun j hj => absurd hj (by omega), Below.refl _ _⟩
  case round =>
    obtain ⟨k, hk, rfl, HT, hB⟩ := hrel
    by_cases hlt : k < n
    · obtain ⟨b, off, rfl, hbW, _⟩ := H0.out.form k hlt
      have HR := Lib.hid (H0.out.below hB); obtain ⟨_, _, _, hr, ⟨⟨ap, cp, rfl, _⟩, ⟨at_, ct, rfl, _⟩, ⟨aq, cq, rfl, _⟩⟩, c0, c1, c2, c3, c4, c5⟩ := HR.out.ent k hlt; obtain ⟨_, e1, hr⟩ := hr
      cases e1
      have HK : Hid (k < x.entries.length) := Lib.hid (by rw [HL.out]; exact hlt)
      have HTK : Hid (entAt x.entries k = (isNameB (x.entries.getD k default).name && (validSch (x.entries.getD k default).scheme && (k == 0 || slt (x.entries.getD (k - 1) default).name (x.entries.getD k default).name)))) := Lib.hid rfl
      have hzt := HZ.out _ (getD_mem HK.out); have HRd := Lib.hid hr; clear hr
      generalize x.entries.getD k default = t at *
      have hzn := hzt.2; have HZs := Lib.hid hzt.1; clear hzt
      go_wp2_with fail
      have hB2 : Below W.heap.size W (wr.alloc (.cells #[.string t.name, .slice ap t.scheme.params.length cp, .string t.scheme.result.elem, .string t.scheme.result.shape.row, .slice at_ t.scheme.result.shape.dims.length ct, .slice aq t.scheme.wh.length cq] 43)) := hB.alloc hB.size _
      have hb2 : Below wr.heap.size wr (wr.alloc (.cells #[.string t.name, .slice ap t.scheme.params.length cp, .string t.scheme.result.elem, .string t.scheme.result.shape.row, .slice at_ t.scheme.result.shape.dims.length ct, .slice aq t.scheme.wh.length cq] 43)) := (Below.refl _ _).alloc (Nat.le_refl _) _
      have hbx := Bx.fresh wr 43 [.string t.name, .slice ap t.scheme.params.length cp, .string t.scheme.result.elem, .string t.scheme.result.shape.row, .slice at_ t.scheme.result.shape.dims.length ct, .slice aq t.scheme.wh.length cq]; have v0 := hbx.cell 0 _ rfl; have v1 := hbx.cell 1 _ rfl; have v2 := hbx.cell 2 _ rfl; have v3 := hbx.cell 3 _ rfl; have v4 := hbx.cell 4 _ rfl; have v5 := hbx.cell 5 _ rfl; have hx1 := cellB xa1 _ hB2; have HRd := Lib.hid (RSch.below HRd.out hb2); clear c0 c1 c2 c3 c4 c5 xa0 xa1 hbx hb2
      generalize (wr.alloc (.cells #[.string t.name, .slice ap t.scheme.params.length cp, .string t.scheme.result.elem, .string t.scheme.result.shape.row, .slice at_ t.scheme.result.shape.dims.length ct, .slice aq t.scheme.wh.length cq] 43)) = w2 at *
      have HB2 := Lib.hid hB2; have E2 := Lib.hid (E0.out.below HB2.out); clear hB hB2
      have HC := Lib.hid (fun t9 : Later w2 => types_ValidScheme (RSch.below HRd.out t9.b) HZs.out (E2.out.at_ t9))
      have v0 := Later.cell v0; have v1 := Later.cell v1; have v2 := Later.cell v2; have v3 := Later.cell v3; have v4 := Later.cell v4; have v5 := Later.cell v5; have hx1 := Later.cell hx1
      cases hnm : isNameB t.name with
      | false =>
        have HF : Hid (validIfc x = false) := Lib.hid (validIfc_bad HK.out (by rw [HTK.out, hnm]; rfl))
        refine wp_region_later (by kernel_rfl) (by kernel_rfl) ?_
        repeat (go_big_quiet_step (first | fail | exact Later.same (lexer_IsName _ _ hzn) | exact Later.call (HC.out _)))
        refine wpQuiet_nil ?_
        rintro _ ⟨t9, rfl⟩
        go_wp2_with fail
        go_ret
        exact ⟨by rw [HF.out]; rfl, B0.out.trans ((HB2.out.trans (t9.b.mono HB2.out.size)).mono B0.out.size)⟩
      | true =>
        cases hv : validSch t.scheme with
        | false =>
          have HF : Hid (validIfc x = false) := Lib.hid (validIfc_bad HK.out (by rw [HTK.out, hnm, hv]; rfl))
          refine wp_region_later (by kernel_rfl) (by kernel_rfl) ?_
          repeat (go_big_quiet_step (first | fail | exact Later.same (lexer_IsName _ _ hzn) | exact Later.call (HC.out _)))
          refine wpQuiet_nil ?_
          rintro _ ⟨t9, rfl⟩
          go_wp2_with fail
          go_ret
          exact ⟨by rw [HF.out]; rfl, B0.out.trans ((HB2.out.trans (t9.b.mono HB2.out.size)).mono B0.out.size)⟩
        | true =>
          cases k with
          | zero =>
            have HO : Hid (entAt x.entries 0 = true) := Lib.hid (by rw [HTK.out, hnm, hv]; rfl)
            refine wp_region_later (by kernel_rfl) (by kernel_rfl) ?_
            repeat (go_big_quiet_step (first | fail | exact Later.same (lexer_IsName _ _ hzn) | exact Later.call (HC.out _)))
            refine wpQuiet_nil ?_
            rintro _ ⟨t9, rfl⟩
            go_wp2_with fail
            go_roundw
            case rel => exact ⟨1, by omega, by go_num, Lib.hid (fun j hj => (by omega : j = 0) ▸ HO.out), HB2.out.trans (t9.b.mono HB2.out.size)⟩
            case measure => simp [intOf]; omega
          | succ k =>
            obtain ⟨_, _, _, _, _, hp, _⟩ := (H0.out.below HB2.out).ent k (by omega)
            have hp := Later.cell hp
            have hk0 : (0 : Int) < ((k + 1 : Nat) : Int) := by omega
            have hki : (((k + 1 : Nat) : Int) - 1) = (k : Int) := by omega
            simp only [Nat.add_sub_cancel] at HTK
            generalize x.entries.getD k default = p at *
            by_cases ho : Op.bytesLess p.name.toList t.name.toList = true
            · have HO : Hid (entAt x.entries (k + 1) = true) := Lib.hid (by rw [HTK.out, hnm, hv]; simpa [slt] using ho)
              refine wp_region_later (by kernel_rfl) (by kernel_rfl) ?_
              repeat (go_big_quiet_step (first | fail | exact Later.same (lexer_IsName _ _ hzn) | exact Later.call (HC.out _)))
              refine wpQuiet_nil ?_
              rintro _ ⟨t9, rfl⟩
              go_wp2_with fail
              go_roundw
              case rel => exact ⟨k + 1 + 1, by omega, by go_num, Lib.hid (upto HT.out HO.out), HB2.out.trans (t9.b.mono HB2.out.size)⟩
              case measure => simp [intOf]; omega
            · have ho : Op.bytesLess p.name.toList t.name.toList = false := by simpa using ho
              have HF : Hid (validIfc x = false) := Lib.hid (validIfc_bad HK.out (by rw [HTK.out, hnm, hv]; simpa [slt] using ho))
              refine wp_region_later (by kernel_rfl) (by kernel_rfl) ?_
              repeat (go_big_quiet_step (first | fail | exact Later.same (lexer_IsName _ _ hzn) | exact Later.call (HC.out _)))
              refine wpQuiet_nil ?_
              rintro _ ⟨t9, rfl⟩
              go_wp2_with fail
              go_ret
              exact ⟨by rw [HF.out]; rfl, B0.out.trans ((HB2.out.trans (t9.b.mono HB2.out.size)).mono B0.out.size)⟩
    · obtain rfl : k = n := by omega
      have HV : Hid (validIfc x = (isNameB x.module_ && decide (k ≤ 60))) := Lib.hid (by rw [validIfc_good (fun j hj => HT.out j (by rw [HL.out] at hj; exact hj)), HL.out])
      have hx0 := cellB xa0 _ hB; have hx1 := cellB xa1 _ hB
      cases hs : isNameB x.module_ with
      | true =>
        go_wp2_with fail
        refine (lexer_IsName _ _ hmz).mono ?_
        rintro e w5 ⟨rfl, rfl⟩
        go_wp2_with fail
        go_ret
        exact ⟨by rw [HV.out, hs, Bool.true_and, ← decide_eq_decide.2 (show ((k : Int) ≤ 60 ↔ k ≤ 60) by omega)]; rfl, B0.out.trans (hB.mono B0.out.size)⟩
      | false =>
        go_wp2_with fail
        refine (lexer_IsName _ _ hmz).mono ?_
        rintro e w5 ⟨rfl, rfl⟩
        go_wp2_with fail
        go_ret
        exact ⟨by rw [HV.out, hs]; rfl, B0.out.trans (hB.mono B0.out.size)⟩
end Go.Proofs.YtjongcdlginjlaaGreatDoor
