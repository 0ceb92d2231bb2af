/- The claim's texts, part 6: contracts of the functions that the statement reaches, and what they say of the data. -/
import Derived.Test.YtjongcdlginjlaaGreatDoorPm5
set_option maxRecDepth 100000
set_option maxHeartbeats 8000000
set_option linter.all false
namespace Go.Proofs.YtjongcdlginjlaaGreatDoor
open Go.Proofs.Tryz
open Go.RowKit
open Go.RowKit Go.Maps
theorem linear_Subst_1 {S : Blk} {x : Bnd} {cs : List Value} {w : World} (h : RBnd.rd S w cs x) (name : Str) (p : Nat) (hp : w.cell? ⟨p, 0, none⟩ = some (.string name)) :
 Calls Tryz.prog 148 #[.agg cs.toArray, .pointer (some ⟨p, 0, none⟩)] w fun e w' => e = .returned (.bool (isB 1 name x)) ∧ Below w.heap.size w w' := by
 obtain ⟨t, d, rfl, ⟨a, c, rfl, _⟩, ⟨a2, c2, rfl, _⟩⟩ := h; have hpl := kCG hp; obtain ⟨B0, ya, hW0⟩ := box1 w 103 [.int .i64 x.kind, .string x.v, .int .i64 x.dim.const, .slice a x.dim.terms.length c, .string x.row.row, .slice a2 x.row.dims.length c2, .string x.elem]; have xa0 := box0 ya 0 _ rfl; have xa1 := box0 ya 1 _ rfl; have xa2 := box0 ya 2 _ rfl; have xa3 := box0 ya 3 _ rfl; have xa4 := box0 ya 4 _ rfl; have xa5 := box0 ya 5 _ rfl; have xa6 := box0 ya 6 _ rfl; clear ya; have hp := kAC hp _ B0.out
 have HE : Hid (isB 1 name x = (x.kind == 1 && (x.v.toList == name.toList))) := hJ rfl
 by_cases h1 : x.kind = 1
 · have q1 : (x.kind == 1) = true := beq_iff_eq.2 h1
   clear h1
   have HF : Hid (isB 1 name x = (x.v.toList == name.toList)) := hJ (by rw [HE.out, q1]; rfl)
   go_enter func148, ntmps148
   go_wp2_with fail
   go_ret
   exact ⟨by rw [HF.out]; rfl, B0.out⟩
 · have q1 : (x.kind == 1) = false := beq_eq_false_iff_ne.2 h1
   clear h1
   have HF : Hid (isB 1 name x = false) := hJ (by rw [HE.out, q1]; rfl)
   go_enter func148, ntmps148
   go_wp2_with fail
   go_ret
   exact ⟨by rw [HF.out]; rfl, B0.out⟩
theorem sub1_hit {b : List Bnd} {v : Str} (h : 0 ≤ kBA b 1 v) : ∃ k : Nat, kBA b 1 v = (k : Int) ∧ k < b.length ∧ sub1 b v = (b.getD k default).dim := by
 unfold kBA idx at h ⊢
 by_cases ha : b.any (isB 1 v) = true
 · rw [if_pos ha] at h ⊢
   refine ⟨b.findIdx (isB 1 v), rfl, (kFH ha).1, ?_⟩
   unfold sub1 bndL
   rw [if_pos ha, if_pos ha]
 · rw [if_neg ha] at h; omega
theorem sub1_miss {b : List Bnd} {v : Str} (h : kBA b 1 v < 0) : sub1 b v = varL v := by
 unfold sub1
 rw [kFE.1 h]; rfl
theorem timesL_var {acc : Lin} (hs : Srt acc.terms) (v : Str) (c : Int) : (kB8 acc (varL v) c).const = acc.const ∧ ∀ s, kAQ (kB8 acc (varL v) c).terms s = if seq v s then kAQ acc.terms v + c else kAQ acc.terms s := by
 refine ⟨by show acc.const + c * 0 = _; omega, fun s => ?_⟩
 show kAQ (plus acc.terms v (c * 1)) s = _
 rw [plus_coef hs]
 split
 · next q => rw [(kA7 _ _).1 q]; omega
 · omega
theorem kDS {S T : Blk} {x : Lin} {cs : List Value} {w : World} (h : RLin.rd S w cs x) (hv : kAD x = true) (b : List Bnd) (a : Option Addr) (nb cb : Nat) (hbs : Sl RBnd T w a nb cb b) (hg : GoodB b) (E : Env w) :
 Calls Tryz.prog 106 #[.agg cs.toArray, .slice a nb cb] w fun e w' => (∃ ds, e = .returned (.tuple #[.agg ds.toArray, .int .i64 (limE (kAF b x))]) ∧ RLin.rd (fun k => w.heap.size ≤ k) w' ds (limL (kAF b x))) ∧ Below w.heap.size w w' := by
 have HCV : Hid (∀ W, Below w.heap.size w W → Calls Tryz.prog 80 #[.agg cs.toArray] W fun e w' => e = .returned (.bool true) ∧ Below W.heap.size W w') :=
  hJ (fun W hW => hv ▸ kCS (RLin.below h hW) (kGS hv) (E.below hW))
 have HZ := hJ (subRaw_sz hg hv); obtain ⟨_, rfl, ax, cx, rfl, hsx⟩ := h; have hvp := kBF hv; have HP := hJ hvp; have HV := hJ hv; have HG := hJ hg; have HSX := hJ hsx
 have HBS := hJ (hbs.mono (S' := fun q => q < w.heap.size) (fun k hk hlt => hlt))
 have hnb := hbs.small; have EE := hJ E; have hmx := hsx.small; have hlen := hvp.2.2.2.2.2; clear hsx hbs hvp hv hg E
 generalize hnx : x.terms.length = n at *
 have HNX := hJ hnx; clear hnx; obtain ⟨B0, ya, yb, hW0⟩ := box2 w 65 [.int .i64 x.const, .slice ax n cx] 65 [.int .i64 0, .slice none 0 0]; have xa0 := box0 ya 0 _ rfl; have xa1 := box0 ya 1 _ rfl; have xb0 := box0 yb 0 _ rfl; have xb1 := box0 yb 1 _ rfl
 have bka : Bx _ _ _ _ := ya; have bkb : Bx _ _ _ _ := yb
 clear ya yb; have HB4 := hJ bkb; clear bka bkb
 have hmf : ∀ (fn : Fn) (first cap : Array Value) (w : World), (Instr.makeFunc fn first cap).run Tryz.prog w = .ok (.func fn first cap) w := fun _ _ _ _ => rfl
 have hmm := @run_makeMap Tryz.prog
 go_enter func106, ntmps106
 go_wp2_with fail
 refine (HCV.out _ B0.out).mono ?_
 rintro e w1 ⟨rfl, hb⟩
 have y0 := kAC xa0 _ hb; have y1 := kAC xa1 _ hb; have HW := hJ (B0.out.trans (hb.mono B0.out.size)); have HX4 := hJ (HB4.out.below hb HB4.out.lt); have hl4 := HX4.out.lt
 have hl2 : w.heap.size < w1.heap.size := by omega
 clear xa0 xa1 xb0 xb1 hb HB4
 go_wp2_with fail
 have hBX0 : Hid (Bx ((w1.alloc (.map #[] 0)).alloc (.cells #[.int .i64 x.const, .map (some w1.heap.size)] 167)) (w1.heap.size + 1) 167 [.int .i64 x.const, .map (some w1.heap.size)]) := hJ (by
  have h := Bx.fresh (w1.alloc (.map #[] 0)) 167 [.int .i64 x.const, .map (some w1.heap.size)]
  have e : (w1.alloc (.map #[] 0)).heap.size = w1.heap.size + 1 := by simp
  rw [e] at h
  exact h)
 go_loopw [21] (fun i wr => ∃ (j n' : Nat) (D' : DataW Unit), j ≤ n ∧ i = .int .i64 j ∧ n' ≤ j * 12 ∧ Hid (Bx wr (w1.heap.size + 1) 167 [.int .i64 (kDE b x.const (x.terms.take j)).const, .map (some w1.heap.size)]) ∧ Hid (MapF wr w1.heap.size n' D' (kAQ (kDE b x.const (x.terms.take j)).terms)) ∧ Hid (Below w1.heap.size w1 wr)) (fun i _ => n - (intOf i).toNat)
 case atStart => exact ⟨0, 0, _, Nat.zero_le _, rfl, Nat.le_refl _, hBX0, hJ ((MapF.made w1).kept ((Below.refl _ _).alloc (Nat.le_refl _) _)), hJ (((Below.refl _ _).alloc (Nat.le_refl _) _).alloc (by simp) _)⟩
 case round =>
  obtain ⟨j, n', D', hj, rfl, hn', HX, HM, HB⟩ := hrel; have hgs := HX.out.lt; have hms := HM.out.lt
  by_cases hlt : j < n
  · obtain ⟨b0, off, rfl, hbW, _⟩ := HSX.out.form j hlt
    have HBw := hJ (HW.out.trans (HB.out.mono HW.out.size)); obtain ⟨c0, c1⟩ := (HSX.out.below HBw.out).coef j hlt
    have HKl : Hid (j < x.terms.length) := hJ (by rw [HNX.out]; exact hlt)
    have HStep := hJ (subRun_take (b := b) (c := x.const) HKl.out)
    have HOK := hJ (valid_take HV.out HG.out j (by rw [HNX.out]; exact hj))
    have HN := hJ (HP.out.2.2.2.1 _ (kAI HKl.out)); have HCb := hJ (HP.out.2.2.1 _ (kAI HKl.out)); have HS1 := hJ (kFK HG.out HN.out)
    generalize x.terms.getD j default = t at *
    generalize hacc : kDE b x.const (x.terms.take j) = acc at *
    clear hacc
    have HBsw := hJ (HBS.out.below (HBw.out.trans ((Below.refl wr.heap.size wr).alloc (Nat.le_refl _) (.cells #[.string t.v, .int .i64 t.c] 62) |>.mono HBw.out.size)))
    have HT0 := hJ (Bx.fresh wr 62 [.string t.v, .int .i64 t.c])
    have HC := hJ (index_Bnd b a nb cb _ HBsw.out 148 #[.pointer (some ⟨wr.heap.size, 0, none⟩)] (kBM func148 rfl rfl) (isB 1 t.v) (fun W x cs hb _ hr => linear_Subst_1 hr t.v wr.heap.size (kAC (HT0.out.cell 0 _ rfl) _ hb)))
    have HFd : Hid (kBA b 1 t.v = idx (isB 1 t.v) b) := hJ rfl
    rw [← HFd.out] at HC
    by_cases hq : kBA b 1 t.v < 0
    · have HSel := hJ (sub1_miss hq)
      generalize kBA b 1 t.v = q at *
      go_wp2_with fail
      refine (HC.out).mono ?_
      rintro e w2 ⟨rfl, hb2⟩
      have hA2 : Below wr.heap.size wr w2 := ((Below.refl _ _).alloc (Nat.le_refl _) _).trans (hb2.mono (by simp))
      have HX2 := hJ (HX.out.below hA2 hgs); have HM2 := hJ (HM.out.kept hA2)
      have HT2 := hJ (HT0.out.below hb2 (by simp))
      have g1 := HX2.out.cell 1 _ rfl; have g0 := HX2.out.cell 0 _ rfl; have t0 := HT2.out.cell 0 _ rfl; have t1 := HT2.out.cell 1 _ rfl
      have hnm : t.v.size ≤ maxLen := Nat.le_trans (kDM HN.out) (by decide)
      have hcb := HCb.out
      have hTb : -9223372036854775808 ≤ kAQ acc.terms t.v + t.c ∧ kAQ acc.terms t.v + t.c ≤ 9223372036854775807 := by
       have h1 := coefAt_bd (by omega) HOK.out.bd t.v
       omega
      have hv2 : IntKind.i64.wrap (kAQ acc.terms t.v + t.c) = kAQ acc.terms t.v + t.c := by rw [IntKind.wrap_i64]; omega
      obtain ⟨hT1, hT2⟩ := hTb; have hl6 := HM2.out.look t.v hnm
      obtain ⟨w6, D6, hr6, hM6, hg6⟩ := HM2.out.put (by unfold maxLen; omega) t.v hnm (kAQ acc.terms t.v + t.c) ⟨hT1, hT2⟩
      have HG6 := hJ (K2.of_grown (p := w1.heap.size + 1) hg6); have HM6 := hJ hM6
      have HX6 : Hid (Bx w6 (w1.heap.size + 1) 167 [.int .i64 acc.const, .map (some w1.heap.size)]) := hJ ((hg6.block _ HX2.out.lt (fun e => by injection e with e; omega)).trans HX2.out)
      have HB6 : Hid (Below w1.heap.size w1 w6) := hJ ((HB.out.trans (hA2.mono HB.out.size)).trans (HG6.out.below (by omega) (by omega) (by have := HB.out.size; have := hA2.size; omega)))
      have HTv := hJ (timesL_var HOK.out.srt t.v t.c); clear hM6 hg6 hb2 hA2
      go_wp2_with fail
      go_roundw
      case rel => exact ⟨j + 1, n' + 1, D6, by omega, by go_num, by omega, by rw [HStep.out, HSel.out, HTv.out.1]; exact HX6, by rw [HStep.out, HSel.out]; exact hJ ⟨HM6.out.own, fun s => by rw [HTv.out.2 s]; exact HM6.out.at_ s⟩, HB6⟩
      case measure => simp [intOf]; omega
    · obtain ⟨k, hk, hkl, hsel⟩ := sub1_hit (b := b) (v := t.v) (by omega)
      rw [hk] at HC
      have hkn : k < nb := by rw [← HBS.out.len]; exact hkl
      clear hq hk HFd; obtain ⟨bb, boff, rfl, hbb, hSb⟩ := HBS.out.form k hkn
      have hkn2 : (k : Int) < (nb : Int) := by omega
      go_wp2_with fail
      refine (HC.out).mono ?_
      rintro e w2 ⟨rfl, hb2⟩
      have hA2 : Below wr.heap.size wr w2 := ((Below.refl _ _).alloc (Nat.le_refl _) _).trans (hb2.mono (by simp))
      have HW2 := hJ (HBw.out.trans (hA2.mono HBw.out.size)); have HX2 := hJ (HX.out.below hA2 hgs); have HM2 := hJ (HM.out.kept hA2)
      have HT2 := hJ (HT0.out.below hb2 (by simp))
      obtain ⟨td, dd, hr, ⟨⟨ad, cd, rfl, hds⟩, hrd⟩, e0, e1, e2, e3, e4, e5, e6⟩ := (HBS.out.below HW2.out).bnd k hkn; have HHds := hJ hds
      generalize b.getD k default = y at *
      have HYv : Hid (kAD y.dim = true) := hJ (hsel ▸ HS1.out)
      have HCV2 := hJ (kDA y.dim ad _ cd w2 HHds.out (kGS HYv.out) (EE.out.below HW2.out)); rw [HYv.out] at HCV2; have hA2s := hJ hA2; clear hr hrd hds hb2 hA2 e0 e1 e4 e5 e6 c0 c1
      generalize hLd : y.dim.terms.length = Ld at *
      go_wp2_with fail
      refine (HCV2.out).mono ?_
      rintro e w3 ⟨rfl, hb3⟩
      have hA3 : Below wr.heap.size wr w3 := hA2s.out.trans (hb3.mono hA2s.out.size)
      have HX3 := hJ (HX2.out.below hb3 HX2.out.lt); have HM3 := hJ (HM2.out.kept hb3); have HT3 := hJ (HT2.out.below hb3 HT2.out.lt); have k2 := kAC e2 _ hb3; have k3 := kAC e3 _ hb3; have k4 := HT3.out.cell 1 _ rfl; have HDs3 := hJ (HHds.out.below hb3)
      have hbb3 : bb < w3.heap.size := kCG k2
      have hT3 := HT3.out.lt
      have HCA : Hid (∀ W', Below w3.heap.size w3 W' → Calls Tryz.prog 149 #[.pointer (some ⟨w1.heap.size + 1, 0, none⟩), .agg #[.int .i64 y.dim.const, .slice ad Ld cd], .int .i64 t.c] W' fun e w' => e = .returned (.tuple #[]) ∧ Bx w' (w1.heap.size + 1) 167 [.int .i64 (kB8 acc y.dim t.c).const, .map (some w1.heap.size)] ∧ (∃ n2 D2, n2 ≤ n' + 12 ∧ MapF w' w1.heap.size n2 D2 (kAQ (kB8 acc y.dim t.c).terms)) ∧ K2 (w1.heap.size + 1) w1.heap.size W' w') :=
       hJ (fun W' hW' => sum_add (S := fun q => q < w.heap.size) (y := y.dim) (cs := [.int .i64 y.dim.const, .slice ad Ld cd]) ⟨_, rfl, ad, cd, by rw [hLd], by rw [hLd]; exact HDs3.out.below hW'⟩ HYv.out _ _ n' D' acc (by omega) HOK.out (HX3.out.below hW' HX3.out.lt) (HM3.out.kept hW') (by omega) t.c HCb.out (fun q hq => ⟨by have := HW.out.size; omega, by have := HW.out.size; omega⟩) (by omega))
      have HSelH : Hid (sub1 b t.v = y.dim) := hJ hsel
      have hA3s := hJ hA3; clear hsel hb3 hA3 e2 e3
      go_wp2_with fail
      go_region_held3 (fun w' => w'.cell? ⟨bb, boff + k * 7 + 2, none⟩ = some (.int .i64 y.dim.const) ∧ w'.cell? ⟨bb, boff + k * 7 + 3, none⟩ = some (.slice ad Ld cd) ∧ w'.cell? ⟨wr.heap.size, 1, none⟩ = some (.int .i64 t.c)) (first | exact ⟨p0, p1, p2⟩ | go_keep) (first
       | (go_at_call 149
          refine (HCA.out _ (by first | exact Below.refl _ _ | exact (Below.refl _ _).drew)).mono ?_
          rintro e w4 ⟨rfl, hX4, ⟨n2, D2, hn2, hM4⟩, hK4⟩
          have p0 : w4.cell? ⟨bb, boff + k * 7 + 2, none⟩ = some (.int .i64 y.dim.const) := kCB (show w3.drew.cell? _ = _ from k2) (fun _ => hK4.block bb hbb3 (by have := HW.out.size; omega) (by have := HW.out.size; omega))
          have p1 : w4.cell? ⟨bb, boff + k * 7 + 3, none⟩ = some (.slice ad Ld cd) := kCB (show w3.drew.cell? _ = _ from k3) (fun _ => hK4.block bb hbb3 (by have := HW.out.size; omega) (by have := HW.out.size; omega))
          have p2 : w4.cell? ⟨wr.heap.size, 1, none⟩ = some (.int .i64 t.c) := kCB (show w3.drew.cell? _ = _ from k4) (fun _ => hK4.block wr.heap.size hT3 (by omega) (by omega))
          have HX4' := hJ hX4; have HM4' := hJ hM4; have HK4' := hJ hK4
          clear hX4 hM4 hK4))
      all_goals
       have HBN : Hid (Below w1.heap.size w1 w4) := hJ ((HB.out.trans ((hA3s.out.trans (Below.refl _ _).drew).mono HB.out.size)).trans (HK4'.out.below (by omega) (by omega) (by have := HB.out.size; have := hA3s.out.size; show w1.heap.size ≤ w3.heap.size; omega)))
       go_wp2_with fail
       go_roundw
       case rel => exact ⟨j + 1, n2, D2, by omega, by go_num, by omega, by rw [HStep.out, HSelH.out]; exact HX4', by rw [HStep.out, HSelH.out]; exact HM4', HBN⟩
       case measure => simp [intOf]; omega
  · obtain rfl : j = n := by omega
    have HEnd : Hid (kDE b x.const (x.terms.take j) = kAF b x) := hJ (by rw [List.take_of_length_le (by rw [HNX.out]; exact Nat.le_refl _)]; rfl)
    have HOK := hJ (valid_take HV.out HG.out j (by rw [HNX.out]; exact Nat.le_refl _))
    rw [HEnd.out] at HX HM HOK
    have HCL := hJ (sum_result (w := wr) (w1.heap.size + 1) w1.heap.size n' D' (kAF b x) HOK.out.srt HOK.out.nz HZ.out HX.out HM.out (by omega) (EE.out.below (HW.out.trans (HB.out.mono HW.out.size))))
    have HX40 := hJ (HX4.out.below HB.out hl4)
    go_wp2_with fail
    refine HCL.out.mono ?_
    rintro e w5 ⟨⟨_, rfl, hr5⟩, hb5⟩
    obtain ⟨_, rfl, a5, c5, rfl, hs5⟩ := hr5
    have HX5 := hJ (HX40.out.below hb5 (by omega))
    have u0 := HX5.out.cell 0 _ rfl; have u1 := HX5.out.cell 1 _ rfl; have u2 := HX5.out.fz 0; have u3 := HX5.out.fz 1; have HX60 := hJ ((HX5.out.set 0 (.int .i64 (limL (kAF b x)).const)).set 1 (.slice a5 (limL (kAF b x)).terms.length c5)); have s0 := HX60.out.cell 0 _ rfl; have s1 := HX60.out.cell 1 _ rfl; have HS5 := hJ hs5; clear hs5
    go_wp2_with fail
    refine bodyPost_ret (v := .tuple #[.agg #[.int .i64 (limL (kAF b x)).const, .slice a5 (limL (kAF b x)).terms.length c5], .int .i64 (limE (kAF b x))]) (by simp [results, results106, go_sem, s0, s1]) rfl ?_
    refine ⟨⟨[.int .i64 (limL (kAF b x)).const, .slice a5 (limL (kAF b x)).terms.length c5], rfl, ⟨_, rfl, a5, c5, rfl, ?_⟩⟩, ?_⟩
    · refine (HS5.out.frame fun q hq _ => ?_).mono (fun q hq _ => by have := HW.out.size; omega)
      rw [kAA (by show w.heap.size + 1 ≠ q; omega), kAA (by show w.heap.size + 1 ≠ q; omega)]
    · exact HW.out.trans ((((HB.out.trans (hb5.mono HB.out.size)).mono HW.out.size).setCell (by show _ ≤ w.heap.size + 1; omega) _).setCell (by show _ ≤ w.heap.size + 1; omega) _)
theorem kBJ : ElemOf Tryz.prog 35 65 RLin.size 32 := ⟨by kernel_rfl, by kernel_rfl⟩
theorem nil_eql (w : World) : (binOp .eql 63 (.slice none 0 0) (.slice none 0 0)).run Tryz.prog w = .ok (.bool true) w := by kernel_rfl
theorem some_eql (w : World) (ad : Addr) (n c : Nat) : (binOp .eql 63 (.slice (some ad) n c) (.slice none 0 0)).run Tryz.prog w = .ok (.bool false) w := by kernel_rfl
theorem slices_Clone {S : Blk} (l : List Coef) (a : Option Addr) (n c : Nat) (w : World) (h : Sl kBP S w a n c l) (hn : n ≤ 1000000) :
 Calls Tryz.prog 227 #[.slice a n c] w fun e w' => (∃ v, e = .returned v ∧ SlV kBP (fun k => w.heap.size ≤ k) w' v l) ∧ Below w.heap.size w w' := by
 have HL := hJ h.len
 cases a with
 | none =>
   have h0 := h.nil rfl; have h1 := h.cap; subst h0
   have h2 : n = 0 := by omega
   subst h2
   have hl : l = [] := List.eq_nil_of_length_eq_zero HL.out
   subst hl; have hq := nil_eql
   go_enter func227, ntmps227
   go_wp2_with fail
   go_ret
   exact ⟨⟨_, rfl, none, 0, rfl, Sl.empty _ _ _⟩, Below.refl _ _⟩
 | some ad =>
   have HS := hJ h; clear h
   have hq := fun w => some_eql w ad n c
   have h0 : ∀ k, (Value.slice (some ⟨w.heap.size, 0, none⟩) 0 0).ownBlock = some k → w.heap.size ≤ k := by intro k e; simp [Value.ownBlock] at e; omega
   go_enter func227, ntmps227
   go_wp2_with (at_builtin; refine app_sl kC1 rfl _ _ rfl w.heap.size _ [] l rfl (Own.at0 kBP _ S (by (simp only [kAG, kAE, Array.getElem?_push, Array.size_push]; simp)) (Nat.le_refl _)) (some ad) _ c rfl (HS.out.later ((Below.refl _ _).alloc (Nat.le_refl _) _) h0) (by simp; omega) (by unfold maxLen; simp; omega) (by simp) ?_; intro v9 w9 hown9 hb9 hk9)
   go_ret
   refine ⟨⟨v9, rfl, ?_⟩, ((Below.refl _ _).alloc (Nat.le_refl _) _).trans hb9⟩
   rw [List.nil_append] at hown9; obtain ⟨a9, c9, rfl, hs9⟩ := hown9.sl
   refine ⟨a9, c9, rfl, hs9.selfCoef.mono (fun k hk _ => hown9.base_le k (kFZ hk))⟩
theorem shape_clones {S : Blk} (l : List Lin) (a : Option Addr) (n c : Nat) (w : World) (h : Sl RLin S w a n c l) (hn : n ≤ 1000) (hl : ∀ x ∈ l, x.terms.length ≤ 1000) :
 Calls Tryz.prog 196 #[.slice a n c] w fun e w' => (∃ v, e = .returned v ∧ Own RLin 65 (fun k => w.heap.size ≤ k) w' w.heap.size v l) ∧ Below w.heap.size w w' := by
 have H := hJ h; have HLs := hJ hl; have HL := hJ h.len; have hm := h.small; clear h hl
 go_enter func196, ntmps196
 go_wp2_with fail
 go_loopw [3, 8] (fun v i wr => ∃ (k : Nat) (v0 : Value), k ≤ n ∧ i = .int .i64 k ∧ v0 = v ∧ Hid (Own RLin 65 (fun k => w.heap.size ≤ k) wr w.heap.size v (l.take k)) ∧ Below w.heap.size w wr) (fun _ i _ => n - (intOf i).toNat)
 case atStart => exact ⟨0, _, Nat.zero_le _, rfl, rfl, hJ (Own.nil _ _ _ _ _), Below.refl _ _⟩
 case round =>
  obtain ⟨k, v0, hk, rfl, rfl, HO, hB⟩ := hrel
  by_cases hlt : k < n
  · obtain ⟨b, off, rfl, hbW, _⟩ := H.out.form k hlt
    obtain ⟨t, hr, ⟨at_, ct, rfl, hts⟩, c0, c1⟩ := (H.out.below hB).lin k hlt
    have HK : Hid (k < l.length) := hJ (by rw [HL.out]; exact hlt)
    have HNext : Hid (l.take (k + 1) = l.take k ++ [l.getD k default]) := hJ (kAU HK.out)
    have hkl : (l.take k).length = k := by rw [List.length_take, HL.out]; omega
    have hxl := HLs.out _ (kAI HK.out); have HTs := hJ hts; clear hr hts
    generalize l.getD k default = x at *
    generalize l.take k = lk at *
    have HC := hJ (fun (W' : World) (hW' : Below wr.heap.size wr W') => slices_Clone x.terms at_ _ ct W' (HTs.out.below hW') (by omega))
    generalize hxL : x.terms.length = L at *
    have HXL := hJ hxL; clear hxL
    go_wp2_with fail
    have hA : Below wr.heap.size wr (wr.alloc (.cells #[.int .i64 x.const, .slice at_ L ct] 65)) := (Below.refl _ _).alloc (Nat.le_refl _) _
    have HT0 := hJ (Bx.fresh wr 65 [.int .i64 x.const, .slice at_ L ct]); have g0 := HT0.out.cell 0 _ rfl; have g1 := HT0.out.cell 1 _ rfl
    go_region_held3 (fun w' => w'.cell? ⟨wr.heap.size, 0, none⟩ = some (.int .i64 x.const) ∧ w'.cell? ⟨wr.heap.size, 1, none⟩ = some (.slice at_ L ct)) (first | exact ⟨s0, s1⟩ | exact ⟨r0, r1⟩ | go_keep) (first
     | (go_at_call 227
        refine (HC.out _ (by first | exact hA.trans (Below.refl _ _) | exact hA.trans (Below.refl _ _).drew | exact (hA.drew))).mono ?_
        rintro e w5 ⟨⟨_, rfl, a5, c5, rfl, hs5⟩, hb5⟩
        have r0 : w5.cell? ⟨wr.heap.size, 0, none⟩ = some (.int .i64 x.const) := (hb5.cell (by simp)).trans g0
        have r1 : w5.cell? ⟨wr.heap.size, 1, none⟩ = some (.slice at_ L ct) := (hb5.cell (by simp)).trans g1)
     | (refine kCC kBJ rfl (.tmp 12) (.tmp 19) rfl w.heap.size _ _ rfl ((HO.out.below (hA.drew.trans (hb5.mono (by simp)))).alloc _) _ x [.int .i64 x.const, .slice a5 x.terms.length c5] rfl ?ry (kA4 65 (by (simp only [kAG, kAE, Array.getElem?_push, Array.size_push]; simp))) (by omega) (by unfold maxLen; omega) (by have h1 := hb5.size; have h2 := hB.size; simp at h1 ⊢; omega) ?_
        case ry => exact ⟨_, rfl, a5, c5, rfl, (hs5.below ((Below.refl _ _).alloc (Nat.le_refl _) _)).mono (fun q hq _ => by
         have hq : wr.heap.size + 1 ≤ q := by simpa using hq
         refine ⟨by have := hB.size; omega, fun e => ?_⟩
         have := (HO.out.block e).2
         omega)⟩
        intro v9 w9 hown9 hb9 hk9
        change Kp v0 _ _ w9 at hk9
        have s0 : w9.cell? ⟨wr.heap.size, 0, none⟩ = some (.int .i64 x.const) := kCB (kAC r0 _ ((Below.refl _ _).alloc (Nat.le_refl _) _)) (fun hl => hk9.block _ hl (fun e => absurd (HO.out.block e).2 (Nat.lt_irrefl _)))
        have s1 : w9.cell? ⟨wr.heap.size, 1, none⟩ = some (.slice at_ L ct) := kCB (kAC r1 _ ((Below.refl _ _).alloc (Nat.le_refl _) _)) (fun hl => hk9.block _ hl (fun e => absurd (HO.out.block e).2 (Nat.lt_irrefl _)))))
    all_goals
     have HBN : Hid (Below w.heap.size w w9) := hJ ((hB.trans ((hA.drew.trans (hb5.mono (by simp))).mono hB.size)).trans ((((Below.refl _ _).alloc (by have h1 := hb5.size; have h2 := hB.size; simp at h1 ⊢; omega) _)).trans hb9))
     go_wp2_with fail
     go_roundw
     case rel => exact ⟨k + 1, _, by omega, by go_num, rfl, hJ (by rw [HNext.out]; exact hown9), HBN.out⟩
     case measure => simp [intOf]; omega
  · have HAll : Hid (l.take k = l) := hJ (List.take_of_length_le (by rw [HL.out]; omega))
    go_wp2_with fail
    go_ret
    exact ⟨⟨_, rfl, by rw [← HAll.out]; exact HO.out⟩, hB⟩
theorem elemLin_zero : ∃ z : Value, (∀ w, (zeroValue 65).run Tryz.prog w = .ok z w) ∧ z.cells.size = 2 ∧ ∀ v ∈ z.cells.toList, v.oneCell' = true := ⟨.agg #[.int .i64 0, .slice none 0 0], fun w => by kernel_rfl, rfl, by intro v hv; simp [Value.cells] at hv; rcases hv with rfl | rfl <;> rfl⟩
theorem kGM (w : World) (g o n c : Nat) (hn : 0 < n) (hc : ∀ j, j < n * 2 → (w.cell? ⟨g, o + j, none⟩).isSome = true) (hf : ∀ j, j < n * 2 → w.frozen? ⟨g, o + j, none⟩ = false) :
 ∃ vs : List Value, ∀ ty : TypeId, (Builtin.clear_ #[35] ty #[.slice (some ⟨g, o, none⟩) n c]).run Tryz.prog w = .ok (.tuple #[]) (w.setCells g o vs) := by
 obtain ⟨z, hz, hs, h1⟩ := elemLin_zero
 have hlen : (Builtin.zeroCells z.cells n).toList.length = n * 2 := by simp [Builtin.zeroCells, hs]
 have hone : ∀ v ∈ (Builtin.zeroCells z.cells n).toList, v.oneCell' = true := fun v hv => by
  simp only [Builtin.zeroCells, Array.toList_map, List.mem_map] at hv
  obtain ⟨i, _, rfl⟩ := hv
  have hlt : i % z.cells.size < z.cells.size := Nat.mod_lt _ (by omega)
  rw [getElem!_pos z.cells _ hlt]
  exact h1 _ (by rw [← Array.getElem_toList]; exact List.getElem_mem _)
 have hst := run_storeCells_cells (P := Tryz.prog) g o (Builtin.zeroCells z.cells n).toList 0 w (by rw [hlen]; simpa using hc) (by rw [hlen]; simpa using hf) hone
 simp only [Nat.add_zero] at hst
 obtain ⟨m, rfl⟩ : ∃ m, n = m + 1 := ⟨n - 1, by omega⟩
 exact ⟨_, fun ty => by simp [Builtin.clear_, run_underlying underlying35, hz, hst]; rfl⟩
theorem Raw.some_cell {k : Nat} {E : TypeId} {w : World} {g : Nat} {css : List (List Value)} {rest : List Value} (h : Raw k E w g css rest) {o : Nat} (ho : o < css.length * k + rest.length) : (w.cell? ⟨g, o, none⟩).isSome = true := by
 have hl : o < (css.flatten ++ rest).length := by rw [List.length_append, kBD h.len]; exact ho
 rw [h.bx.cell o _ (List.getElem?_eq_getElem hl)]; rfl
theorem keep_filter (p : Lin → Bool) (l : List Lin) : kept (fun i => !p (l.getD i default)) l l.length = l.filter (fun x => !p x) := by
 have := kept_filter (fun x => !p x) l l.length (Nat.le_refl _)
 rwa [List.take_length] at this
theorem delete_Lin {S : Blk} {w : World} {base : Nat} {v : Value} {l : List Lin} (h : Own RLin 65 S w base v l) (hbase : base ≤ w.heap.size) (hn : l.length ≤ 1000) (g : FuncId) (hen : Ent1 g) (p : Lin → Bool)
 (hp : ∀ (S' : Blk) (W : World) (x : Lin) (cs : List Value), RLin.rd S' W cs x → Calls Tryz.prog g #[.agg cs.toArray] W fun e w' => e = .returned (.bool (p x)) ∧ Below W.heap.size W w') :
 Calls Tryz.prog 59 #[v, .func (.func g) #[] #[]] w fun e w' => (∃ v', e = .returned v' ∧ Own RLin 65 S w' base v' (l.filter (fun x => !p x)) ∧ Kl v v' w w') ∧ Below base w w' := by
 obtain ⟨a, c, rfl, hsl⟩ := h.sl
 have HIx := hJ (index_Lin l a l.length c w hsl g #[] hen p (fun W x cs hb _ hr => hp _ W x cs hr))
 by_cases hany : l.any p = true
 case neg =>
  have hidx : idx p l = -1 := by unfold idx; rw [if_neg hany]
  have HF : Hid (l.filter (fun x => !p x) = l) := hJ (by
   rw [List.filter_eq_self]
   intro x hx
   have : l.any p = false := by simpa using hany
   rw [List.any_eq_false] at this
   simpa using this x hx)
  rw [hidx] at HIx; have HO := hJ h; clear h hsl hany hidx hp
  generalize hln : l.length = n at *
  go_enter func59, ntmps59
  go_wp2_with fail
  refine HIx.out.mono ?_
  rintro e w1 ⟨rfl, hb1⟩
  go_wp2_with fail
  go_ret
  exact ⟨⟨_, rfl, by rw [HF.out]; exact HO.out.below hb1, Kl.below hb1⟩, hb1.mono hbase⟩
 obtain ⟨hi0, hpi0⟩ := kFH hany
 have hbef : ∀ j, j < l.findIdx p → p (l.getD j default) = false := fun j hj => by
  have := List.not_of_lt_findIdx hj
  rw [List.getD_eq_getElem?_getD, List.getElem?_eq_getElem (by omega)]
  simpa using this
 have hidx : idx p l = (l.findIdx p : Int) := by unfold idx; rw [if_pos hany]
 rw [hidx] at HIx
 generalize l.findIdx p = i0 at *
 have hl : 0 < l.length := by omega
 have hk0 : KeepAt (fun i => !p (l.getD i default)) l l i0 := KeepAt.same (by omega) (fun j hj => by show (!p _) = true; rw [hbef j hj]; rfl)
 have hk1 := hk0.skip (by show (!p (l.getD i0 default)) = false; rw [hpi0]; rfl)
 have hkl : (kept (fun i => !p (l.getD i default)) l (i0 + 1)).length = i0 := by
  rw [kB1, if_neg (by rw [hpi0]; decide), kept_all _ _ _ (by omega) (fun j hj => by show (!p _) = true; rw [hbef j hj]; rfl), List.length_take]; omega
 have HK0 := hJ hk1; have HKl := hJ hkl; obtain ⟨gb, c2, css0, rest0, hv, hgb, hR, hL, hlc, hcm, hsz⟩ := h.raw hl; rw [Value.slice.injEq] at hv; obtain ⟨rfl, -, rfl⟩ := hv; have HR0 := hJ hR; have HL0 := hJ hL; have HS0 := hJ hsz; have HP := hJ hp; have HFin := hJ (keep_filter p l); have hgl := hR.lt; clear h hsl hany hidx hbef hk0 hk1 hkl hR hL hsz hp hpi0
 generalize hln : l.length = n at *
 have HN := hJ hln; clear hln
 go_enter func59, ntmps59
 go_wp2_with fail
 refine HIx.out.mono ?_
 rintro e w1 ⟨rfl, hb1⟩
 have hne : ((i0 : Int) == -1) = false := beq_eq_false_iff_ne.2 (by omega)
 have HR1 := hJ (HR0.out.below hb1 hgl); have HL1 := hJ (HL0.out.below hb1); have hB1 := (Kb.refl gb w).later hb1; clear HIx
 go_wp2_with fail
 go_loopw [5, 6] (fun iv jv wr => ∃ (j k : Nat) (M : List Lin) (css : List (List Value)) (rest : List Value), j ≤ n ∧ k < j ∧ iv = .int .i64 k ∧ jv = .int .i64 j ∧ Hid ((kept (fun i => !p (l.getD i default)) l j).length = k) ∧ Hid (KeepAt (fun i => !p (l.getD i default)) l M j) ∧ Hid (Raw 2 65 wr gb css rest) ∧ Hid (Lies RLin S wr gb css M) ∧ Hid (css.length * 2 + rest.length = c * 2) ∧ Kb gb w wr) (fun _ jv _ => n - (intOf jv).toNat)
 case atStart => exact ⟨i0 + 1, i0, _, _, _, by omega, by omega, rfl, by go_num, HKl, HK0, HR1, HL1, HS0, hB1⟩
 case round =>
  obtain ⟨j, k, M, css, rest, hj, hk, rfl, rfl, HKl, HK, HR, HL, HS, hB⟩ := hrel
  have HMl : Hid (M.length = n) := hJ (by rw [HK.out.len]; exact HN.out)
  have hsz := hB.size
  by_cases hlt : j < n
  · have hjM : j < M.length := by rw [HMl.out]; exact hlt
    obtain ⟨csx, hix, hrx⟩ := HL.out.at_ hjM; rw [HK.out.at_ j (Nat.le_refl _)] at hrx
    have HSk : Hid (p (l.getD j default) = true → KeepAt (fun i => !p (l.getD i default)) l M (j + 1) ∧ (kept (fun i => !p (l.getD i default)) l (j + 1)).length = k) := hJ (fun q => ⟨HK.out.skip (by show (!p _) = false; rw [q]; rfl), by rw [kB1, if_neg (by rw [q]; decide)]; exact HKl.out⟩)
    have HPt : Hid (p (l.getD j default) = false → KeepAt (fun i => !p (l.getD i default)) l (M.set k (l.getD j default)) (j + 1) ∧ (kept (fun i => !p (l.getD i default)) l (j + 1)).length = k + 1) := hJ (fun q => ⟨by have := HK.out.put (by rw [HN.out]; exact hlt) (by show (!p _) = true; rw [q]; rfl); rwa [HKl.out] at this, by rw [kB1, if_pos (by rw [q]; rfl), List.length_append, HKl.out]; rfl⟩)
    have hcl : css.length = n := by rw [HL.out.1]; exact HMl.out
    have hkM : k < M.length := by omega
    obtain ⟨csk, hik, hrk⟩ := HL.out.at_ hkM; obtain ⟨_, rfl, ak, ck, rfl, _⟩ := hrk; have HIK := hJ hik; have HCl := hJ hcl; clear hik hcl hkM
    generalize l.getD j default = x at *
    obtain ⟨_, rfl, ax, cx, rfl, hsx⟩ := hrx; have x0 := HR.out.cell hix 0 _ rfl; have x1 := HR.out.cell hix 1 _ rfl; rw [Nat.add_zero] at x0
    have HX := hJ (⟨_, rfl, ax, cx, rfl, hsx⟩ : RLin.rd (fun q => S q ∧ q ≠ gb) wr [.int .i64 x.const, .slice ax x.terms.length cx] x)
    clear hix hsx hjM
    have HA : Hid (Below wr.heap.size wr (wr.alloc (.cells #[.int .i64 x.const, .slice ax x.terms.length cx] 65))) := hJ ((Below.refl _ _).alloc (Nat.le_refl _) _)
    have HC := hJ (HP.out _ _ x _ (RLin.below HX.out HA.out)); have HBx := hJ (Bx.fresh wr 65 [.int .i64 x.const, .slice ax x.terms.length cx])
    generalize M.getD k default = y at *
    cases hpx : p x with
    | true =>
      rw [hpx] at HC; have HSk := hJ (HSk.out hpx); clear hpx HPt
      go_wp2_with (go_at_fn g; refine HC.out.mono ?_; rintro e w4 ⟨rfl, hb4⟩)
      have HB4 := hJ (HA.out.trans (hb4.mono HA.out.size))
      go_roundw
      case rel => exact ⟨j + 1, k, M, css, rest, by omega, by omega, rfl, by go_num, hJ HSk.out.2, hJ HSk.out.1, hJ (HR.out.below HB4.out HR.out.lt), hJ (HL.out.below HB4.out), HS, hB.later HB4.out⟩
      case measure => simp [intOf]; omega
    | false =>
      rw [hpx] at HC; have HPt := hJ (HPt.out hpx); clear hpx HSk
      have hkn : (k : Int) < (n : Int) := by omega
      go_wp2_with (go_at_fn g; refine HC.out.mono ?_; rintro e w4 ⟨rfl, hb4⟩; have HB4 := hJ (HA.out.trans (hb4.mono HA.out.size)); have HR4 := hJ (HR.out.below HB4.out HR.out.lt); have k0 := HR4.out.cell HIK.out 0 _ rfl; have k1 := HR4.out.cell HIK.out 1 _ rfl; rw [Nat.add_zero] at k0; have f0 := HR4.out.fz (k * 2); have f1 := HR4.out.fz (k * 2 + 1); have HP4 := hJ (HBx.out.below hb4 (by simp)); have p0 := HP4.out.cell 0 _ rfl; have p1 := HP4.out.cell 1 _ rfl)
      go_roundw
      case rel => exact ⟨j + 1, k + 1, M.set k x, _, rest, by omega, by omega, by go_num, by go_num, hJ HPt.out.2, hJ HPt.out.1, hJ (HR4.out.put2 (i := k) (by rw [HCl.out]; omega) _ _), hJ ((((HL.out.below HB4.out).self _ _).self _ _).set k (RLin.frame (RLin.below HX.out HB4.out) (fun q hq _ => (kAA (fun e => hq.2 e.symm)).trans (kAA (fun e => hq.2 e.symm))))), hJ (by rw [List.length_set]; exact HS.out), ((hB.later HB4.out).set _ _).set _ _⟩
      case measure => simp [intOf]; omega
  · obtain rfl : j = n := by omega
    have hcl : css.length = j := by rw [HL.out.1]; exact HMl.out
    obtain ⟨vs, hclr⟩ := kGM wr gb (k * 2) (j - k) (c - k) (by omega) (fun i hi => HR.out.some_cell (by rw [hcl]; have := HS.out; omega)) (fun i hi => HR.out.fz _)
    obtain ⟨rest', hR', hr'⟩ := Raw.setCells vs (HR.out.take k) (o := k * 2) (by rw [List.length_take]; omega)
    have HR' := hJ hR'
    have HFk : Hid (M.take k = l.filter (fun x => !p x)) := hJ (by rw [← HKl.out, HK.out.front]; exact HFin.out)
    have HFl : Hid ((l.filter (fun x => !p x)).length = k) := hJ (by rw [← HFk.out, List.length_take, HMl.out]; omega)
    have HL' : Hid (Lies RLin S (wr.setCells gb (k * 2) vs) gb (css.take k) (l.filter (fun x => !p x))) := hJ (by rw [← HFk.out]; exact (HL.out.take k).frame (fun q _ hne _ => kEL gb vs wr _ q hne))
    have HS' : Hid ((css.take k).length * 2 + rest'.length = c * 2) := hJ (by
     have h1 := HS.out
     rw [hr', List.length_append, kBD (m := 2) (fun cs hc => HR.out.len cs (List.mem_of_mem_drop hc)), List.length_drop, List.length_take]
     omega)
    have hkc : ¬c = k := by omega
    clear hR' hr' hcl
    go_wp2_with fail
    go_ret
    have hO := HR'.out.own HL'.out hgb (by rw [HFl.out]; omega) hcm HS'.out
    rw [HFl.out] at hO
    exact ⟨⟨_, rfl, hO, (Kb.sets vs hB _).kl _ _ _ _⟩, (Kb.sets vs hB _).below hgb hbase⟩
theorem kept_small {α : Type} [Inhabited α] (eq : α → α → Bool) (l : List α) (h : l.length < 2) : kept (newB eq l) l l.length = l := by
 match l, h with
 | [], _ => rfl
 | [a], _ => rfl
theorem newB_at {α : Type} [Inhabited α] {eq : α → α → Bool} {l : List α} {k : Nat} (h : 0 < k) : newB eq l k = !eq (l.getD k default) (l.getD (k - 1) default) := by
 unfold newB
 rw [show (k == 0) = false by simpa using Nat.pos_iff_ne_zero.1 h]; rfl
theorem compact_Lin {S : Blk} {w : World} {base : Nat} {v : Value} {l : List Lin} (h : Own RLin 65 S w base v l) (hbase : base ≤ w.heap.size) (hn : l.length ≤ 1000) (g : FuncId) (hen : Ent1 g) (eq : Lin → Lin → Bool)
 (hp : ∀ (S' T' : Blk) (W : World) (x y : Lin) (cs ds : List Value), RLin.rd S' W cs x → RLin.rd T' W ds y → Calls Tryz.prog g #[.agg cs.toArray, .agg ds.toArray] W fun e w' => e = .returned (.bool (eq x y)) ∧ Below W.heap.size W w') :
 Calls Tryz.prog 64 #[v, .func (.func g) #[] #[]] w fun e w' => (∃ v', e = .returned v' ∧ Own RLin 65 S w' base v' (kept (newB eq l) l l.length) ∧ Kl v v' w w') ∧ Below base w w' := by
 by_cases h2 : l.length < 2
 · have HF := hJ (kept_small eq l h2)
   have HO := hJ h; obtain ⟨a, m, c, rfl⟩ := h.shape; obtain ⟨_, _, q, _⟩ := h.sl; rw [Value.slice.injEq] at q; obtain ⟨-, rfl, -⟩ := q; clear h
   generalize hln : l.length = n at *
   have h3 : (n : Int) < 2 := by omega
   go_enter func64, ntmps64
   go_wp2_with fail
   go_ret
   exact ⟨⟨_, rfl, by rw [HF.out]; exact HO.out, Kl.refl _ _⟩, Below.refl _ _⟩
 have hl : 0 < l.length := by omega
 obtain ⟨gb, c, css0, rest0, rfl, hgb, hR, hL, hlc, hcm, hsz⟩ := h.raw hl
 have HR0 : Hid (Raw 2 65 w gb css0 rest0) := hJ hR
 have HL0 := hJ hL
 have HS0 : Hid (css0.length * 2 + rest0.length = c * 2) := hJ hsz
 have HP := hJ hp; have HO := hJ h; have hgl := hR.lt; clear h hR hL hsz hp
 generalize hln : l.length = n at *
 have HN := hJ hln; clear hln
 have h3 : ¬(n : Int) < 2 := by omega
 go_enter func64, ntmps64
 go_wp2_with fail
 have HT0 : Hid (∀ i, i < 1 → newB eq l i = true) := hJ (fun i hi => (show i = 0 by omega) ▸ rfl)
 go_loopw [5] (fun kv wr => ∃ k : Nat, 1 ≤ k ∧ k ≤ n ∧ kv = .int .i64 k ∧ Hid (∀ i, i < k → newB eq l i = true) ∧ Below w.heap.size w wr) (fun kv _ => n - (intOf kv).toNat)
 case atStart => exact ⟨1, Nat.le_refl _, by omega, rfl, HT0, Below.refl _ _⟩
 case round =>
  obtain ⟨k, hk1, hkn, rfl, HT, hB⟩ := hrel; have HR := hJ (HR0.out.below hB hgl); have HL := hJ (HL0.out.below hB)
  by_cases hlt : k < n
  · obtain ⟨kp, rfl⟩ : ∃ kp, k = kp + 1 := ⟨k - 1, by omega⟩
    obtain ⟨csx, hix, hrx⟩ := HL.out.at_ (i := kp + 1) (by rw [HN.out]; exact hlt)
    obtain ⟨csa, hia, hra⟩ := HL.out.at_ (i := kp) (by rw [HN.out]; omega)
    have HC := hJ (fun (t : Later wr) => HP.out _ _ t.w _ _ csx csa (RLin.below hrx t.b) (RLin.below hra t.b))
    have HNw : Hid (newB eq l (kp + 1) = !eq (l.getD (kp + 1) default) (l.getD kp default)) := hJ (newB_at (by omega))
    obtain ⟨_, rfl, ax, cx, rfl, hsx⟩ := hrx; obtain ⟨_, rfl, aa, ca, rfl, hsa⟩ := hra; have x0 := HR.out.cell hix 0 _ rfl; have x1 := HR.out.cell hix 1 _ rfl; have a0 := HR.out.cell hia 0 _ rfl; have a1 := HR.out.cell hia 1 _ rfl; rw [Nat.add_zero] at x0 a0; have X0 := Later.cell x0; have X1 := Later.cell x1; have A0 := Later.cell a0; have A1 := Later.cell a1
    have hki : (((kp + 1 : Nat) : Int) - 1) = (kp : Int) := by omega
    have hkz : (kp : Int) + 1 < (n : Int) := by omega
    have hkz0 : (kp : Int) < (n : Int) := by omega
    clear x0 x1 a0 a1 hix hia hsx hsa
    generalize l.getD (kp + 1) default = x at *
    generalize l.getD kp default = a at *
    cases hq : eq x a with
    | false =>
      rw [hq] at HC
      have HNw2 : newB eq l (kp + 1) = true := by rw [HNw.out, hq]; rfl
      have HT2 : Hid (∀ i, i < kp + 1 + 1 → newB eq l i = true) := hJ (upto HT.out HNw2)
      clear HNw2; clear hq
      go_wp2_with fail
      refine kAB (by kernel_rfl) (by kernel_rfl) ?_
      repeat (go_big_quiet_step (first | fail | exact Later.call (HC.out _)))
      refine wpQuiet_nil ?_
      rintro _ ⟨t9, rfl⟩
      have HBq : Hid (Below wr.heap.size wr t9.w) := hJ t9.b
      generalize t9.w = wq at *
      go_wp2_with fail
      go_roundw
      case rel => exact ⟨kp + 1 + 1, by omega, by omega, by go_num, HT2, hB.trans (HBq.out.mono hB.size)⟩
      case measure => simp [intOf]; omega
    | true =>
      rw [hq] at HC
      have HNw : Hid (newB eq l (kp + 1) = false) := hJ (by rw [HNw.out, hq]; rfl)
      clear hq
      go_wp2_with fail
      refine kAB (by kernel_rfl) (by kernel_rfl) ?_
      repeat (go_big_quiet_step (first | fail | exact Later.call (HC.out _)))
      refine wpQuiet_nil ?_
      rintro _ ⟨t9, rfl⟩
      have HBq : Hid (Below wr.heap.size wr t9.w) := hJ t9.b
      generalize t9.w = wq at *
      clear X0 X1 A0 A1 HC
      have HK0 : Hid (KeepAt (newB eq l) l l (kp + 1)) := hJ (KeepAt.same (by rw [HN.out]; omega) HT.out)
      have HKl0 : Hid ((kept (newB eq l) l (kp + 1)).length = kp + 1) := hJ (by rw [kept_all _ _ _ (by rw [HN.out]; omega) HT.out, List.length_take, HN.out]; omega)
      have HK1 := hJ (HK0.out.skip HNw.out)
      have HKl1 : Hid ((kept (newB eq l) l (kp + 1 + 1)).length = kp + 1) := hJ (by rw [kB1, if_neg (by rw [HNw.out]; decide)]; exact HKl0.out)
      have HR1 := hJ (HR.out.below HBq.out HR.out.lt); have HL1 := hJ (HL.out.below HBq.out)
      have hB1 : Kb gb w wq := (Kb.refl gb w).later (hB.trans (HBq.out.mono hB.size))
      have hkc : ¬c = kp + 1 := by omega
      clear HK0 HKl0 HNw HT HR HL HO
      go_wp2_with fail
      go_loopw [5, 7] (fun kv jv wr => ∃ (kk j2 : Nat) (M : List Lin) (css : List (List Value)) (rest : List Value), 1 ≤ j2 ∧ kp + 1 + j2 ≤ n ∧ kk < kp + 1 + j2 ∧ kv = .int .i64 kk ∧ jv = .int .i64 j2 ∧ Hid ((kept (newB eq l) l (kp + 1 + j2)).length = kk) ∧ Hid (KeepAt (newB eq l) l M (kp + 1 + j2)) ∧ Hid (M.getD (kp + j2) default = l.getD (kp + j2) default) ∧ Hid (Raw 2 65 wr gb css rest) ∧ Hid (Lies RLin S wr gb css M) ∧ Hid (css.length * 2 + rest.length = c * 2) ∧ Kb gb w wr) (fun _ jv _ => n - (intOf jv).toNat)
      case atStart => exact ⟨kp + 1, 1, _, _, _, Nat.le_refl _, by omega, by omega, by go_num, rfl, HKl1, HK1, hJ rfl, HR1, HL1, HS0, hB1⟩
      case round =>
       clear HK1 HKl1 HR1 HL1 hB1 HBq hB; obtain ⟨kk, j2, M, css, rest, hj1, hjn, hkk, rfl, rfl, HKl, HK, HPr, HR, HL, HS, hB⟩ := hrel
       have HMl : Hid (M.length = n) := hJ (by rw [HK.out.len]; exact HN.out)
       have hsz := hB.size; have hgl := HR.out.lt
       by_cases hlj : kp + 1 + j2 < n
       · obtain ⟨jp, rfl⟩ : ∃ jp, j2 = jp + 1 := ⟨j2 - 1, by omega⟩
         obtain ⟨csx, hix, hrx⟩ := HL.out.at_ (i := kp + 1 + (jp + 1)) (by rw [HMl.out]; exact hlj)
         obtain ⟨csa, hia, hra⟩ := HL.out.at_ (i := kp + 1 + jp) (by rw [HMl.out]; omega)
         obtain ⟨csk, hik, hrk⟩ := HL.out.at_ (i := kk) (by rw [HMl.out]; omega)
         rw [HK.out.at_ _ (Nat.le_refl _)] at hrx
         rw [show kp + 1 + jp = kp + (jp + 1) by omega, HPr.out] at hra
         have HX := hJ hrx
         have HC := hJ (fun (t : Later wr) => HP.out _ _ t.w _ _ csx csa (RLin.below hrx t.b) (RLin.below hra t.b))
         have HNw : Hid (newB eq l (kp + 1 + (jp + 1)) = !eq (l.getD (kp + 1 + (jp + 1)) default) (l.getD (kp + (jp + 1)) default)) := hJ (by
          rw [newB_at (by omega), show kp + 1 + (jp + 1) - 1 = kp + (jp + 1) by omega])
         have HSk : Hid (newB eq l (kp + 1 + (jp + 1)) = false → KeepAt (newB eq l) l M (kp + 1 + (jp + 1 + 1)) ∧ (kept (newB eq l) l (kp + 1 + (jp + 1 + 1))).length = kk) := hJ (fun q => ⟨HK.out.skip q, by
          rw [show kp + 1 + (jp + 1 + 1) = kp + 1 + (jp + 1) + 1 by omega, kB1, if_neg (by rw [q]; decide)]; exact HKl.out⟩)
         have HPt : Hid (newB eq l (kp + 1 + (jp + 1)) = true → KeepAt (newB eq l) l (M.set kk (l.getD (kp + 1 + (jp + 1)) default)) (kp + 1 + (jp + 1 + 1)) ∧ (kept (newB eq l) l (kp + 1 + (jp + 1 + 1))).length = kk + 1) := hJ (fun q => ⟨by
          have := HK.out.put (by rw [HN.out]; exact hlj) q; rwa [HKl.out] at this, by
          rw [show kp + 1 + (jp + 1 + 1) = kp + 1 + (jp + 1) + 1 by omega, kB1, if_pos q, List.length_append, HKl.out]; rfl⟩)
         have HPr1 : Hid (M.getD (kp + (jp + 1 + 1)) default = l.getD (kp + (jp + 1 + 1)) default) := hJ (HK.out.at_ _ (by omega))
         have HPr2 : Hid ((M.set kk (l.getD (kp + 1 + (jp + 1)) default)).getD (kp + (jp + 1 + 1)) default = l.getD (kp + (jp + 1 + 1)) default) := hJ (by
          rw [← HPr1.out, List.getD_eq_getElem?_getD, List.getElem?_set_ne (by omega), List.getD_eq_getElem?_getD])
         obtain ⟨_, rfl, ax, cx, rfl, hsx⟩ := hrx; obtain ⟨_, rfl, aa, ca, rfl, hsa⟩ := hra; obtain ⟨_, rfl, ak, ck, rfl, _⟩ := hrk; have x0 := HR.out.cell hix 0 _ rfl; have x1 := HR.out.cell hix 1 _ rfl; have a0 := HR.out.cell hia 0 _ rfl; have a1 := HR.out.cell hia 1 _ rfl
         rw [show (kp + 1 + (jp + 1)) * 2 + 0 = (kp + 1) * 2 + (jp + 1) * 2 by omega] at x0
         rw [show (kp + 1 + (jp + 1)) * 2 + 1 = (kp + 1) * 2 + (jp + 1) * 2 + 1 by omega] at x1
         rw [show (kp + 1 + jp) * 2 + 0 = (kp + 1) * 2 + jp * 2 by omega] at a0
         rw [show (kp + 1 + jp) * 2 + 1 = (kp + 1) * 2 + jp * 2 + 1 by omega] at a1
         have HX0 := hJ x0; have HX1 := hJ x1; have HIK := hJ hik; have X0 := Later.cell x0; have X1 := Later.cell x1; have A0 := Later.cell a0; have A1 := Later.cell a1
         have hcl : css.length = n := by rw [HL.out.1]; exact HMl.out
         have HCl := hJ hcl
         have hji : (((jp + 1 : Nat) : Int) - 1) = (jp : Int) := by omega
         have hjz : (jp : Int) + 1 < (n : Int) - ((kp : Int) + 1) := by omega
         have hjz0 : (jp : Int) < (n : Int) - ((kp : Int) + 1) := by omega
         clear x0 x1 a0 a1 hix hia hik hsx hsa hcl
         generalize l.getD (kp + 1 + (jp + 1)) default = x at *
         generalize l.getD (kp + (jp + 1)) default = a at *
         generalize M.getD kk default = y at *
         cases hq : eq x a with
         | true =>
           rw [hq] at HC
           have HSk := hJ (HSk.out (by rw [HNw.out, hq]; rfl))
           clear hq HPt HNw HPr2
           go_wp2_with fail
           refine kAB (by kernel_rfl) (by kernel_rfl) ?_
           repeat (go_big_quiet_step (first | fail | exact Later.call (HC.out _)))
           refine wpQuiet_nil ?_
           rintro _ ⟨t9, rfl⟩
           have HBq : Hid (Below wr.heap.size wr t9.w) := hJ t9.b
           generalize t9.w = wq at *
           go_wp2_with fail
           go_roundw
           case rel => exact ⟨kk, jp + 1 + 1, M, css, rest, by omega, by omega, by omega, rfl, by go_num, hJ HSk.out.2, hJ HSk.out.1, HPr1, hJ (HR.out.below HBq.out hgl), hJ (HL.out.below HBq.out), HS, hB.later HBq.out⟩
           case measure => simp [intOf]; omega
         | false =>
           rw [hq] at HC
           have HPt := hJ (HPt.out (by rw [HNw.out, hq]; rfl))
           clear hq HSk HNw HPr1
           go_wp2_with fail
           refine kAB (by kernel_rfl) (by kernel_rfl) ?_
           repeat (go_big_quiet_step (first | fail | exact Later.call (HC.out _)))
           refine wpQuiet_nil ?_
           rintro _ ⟨t9, rfl⟩
           have HBq : Hid (Below wr.heap.size wr t9.w) := hJ t9.b
           generalize t9.w = wq at *
           clear X0 X1 A0 A1 HC; have HR4 := hJ (HR.out.below HBq.out hgl); have x0 := kAC HX0.out _ HBq.out; have x1 := kAC HX1.out _ HBq.out; have k0 := HR4.out.cell HIK.out 0 _ rfl; have k1 := HR4.out.cell HIK.out 1 _ rfl; rw [Nat.add_zero] at k0; have f0 := HR4.out.fz (kk * 2); have f1 := HR4.out.fz (kk * 2 + 1)
           have hkz2 : (kk : Int) < (n : Int) := by omega
           go_wp2_with fail
           go_roundw
           case rel => exact ⟨kk + 1, jp + 1 + 1, M.set kk x, _, rest, by omega, by omega, by omega, by go_num, by go_num, hJ HPt.out.2, hJ HPt.out.1, HPr2, hJ (HR4.out.put2 (i := kk) (by rw [HCl.out]; omega) _ _), hJ ((((HL.out.below HBq.out).self _ _).self _ _).set kk (RLin.frame (RLin.below HX.out HBq.out) (fun q hq _ => (kAA (fun e => hq.2 e.symm)).trans (kAA (fun e => hq.2 e.symm))))), hJ (by rw [List.length_set]; exact HS.out), ((hB.later HBq.out).set _ _).set _ _⟩
           case measure => simp [intOf]; omega
       · have hjn2 : kp + 1 + j2 = n := by omega
         have hcl : css.length = n := by rw [HL.out.1]; exact HMl.out
         obtain ⟨vs, hclr⟩ := kGM wr gb (kk * 2) (n - kk) (c - kk) (by omega) (fun i hi => HR.out.some_cell (by rw [hcl]; have := HS.out; omega)) (fun i hi => HR.out.fz _)
         obtain ⟨rest', hR', hr'⟩ := Raw.setCells vs (HR.out.take kk) (o := kk * 2) (by rw [List.length_take]; omega)
         have HR' := hJ hR'
         have HFk : Hid (M.take kk = kept (newB eq l) l n) := hJ (by have := HK.out.front; rw [HKl.out, hjn2] at this; exact this)
         have HFl : Hid ((kept (newB eq l) l n).length = kk) := hJ (by rw [← HFk.out, List.length_take, HMl.out]; omega)
         have HL' : Hid (Lies RLin S (wr.setCells gb (kk * 2) vs) gb (css.take kk) (kept (newB eq l) l n)) := hJ (by rw [← HFk.out]; exact (HL.out.take kk).frame (fun q _ hne _ => kEL gb vs wr _ q hne))
         have HS' : Hid ((css.take kk).length * 2 + rest'.length = c * 2) := hJ (by
          have h1 := HS.out
          rw [hr', List.length_append, kBD (m := 2) (fun cs hc => HR.out.len cs (List.mem_of_mem_drop hc)), List.length_drop, List.length_take]
          omega)
         have hkc2 : ¬c = kk := by omega
         have hjz : ¬(j2 : Int) < (n : Int) - ((kp : Int) + 1) := by omega
         clear hR' hr' hcl
         go_wp2_with fail
         go_ret
         have hO := HR'.out.own HL'.out hgb (by rw [HFl.out]; omega) hcm HS'.out
         rw [HFl.out] at hO
         exact ⟨⟨_, rfl, hO, (Kb.sets vs hB _).kl _ _ _ _⟩, (Kb.sets vs hB _).below hgb hbase⟩
  · obtain rfl : k = n := by omega
    have HF : Hid (kept (newB eq l) l k = l) := hJ (by rw [kept_all _ _ _ (by rw [HN.out]; exact Nat.le_refl _) HT.out, List.take_of_length_le (by rw [HN.out]; exact Nat.le_refl _)])
    go_wp2_with fail
    go_ret
    exact ⟨⟨_, rfl, by rw [HF.out]; exact HO.out.below hB, Kl.below hB⟩, hB.mono hbase⟩
theorem insSort_Lin0 (a : Option Addr) (c : Nat) (w : World) (g : FuncId) : Calls Tryz.prog 151 #[.slice a 0 c, .int .i64 0, .int .i64 0, .func (.func g) #[] #[]] w fun e w' => e = .returned (.tuple #[]) ∧ w = w' := by
 go_enter func151, ntmps151
 go_wp2_with fail
 go_loopw [8] (fun i wr => i = .int .i64 1 ∧ w = wr) (fun _ _ => 0)
 case atStart => exact ⟨rfl, rfl⟩
 case round =>
  obtain ⟨rfl, rfl⟩ := hrel
  go_wp2_with fail
  go_end0
  exact ⟨rfl, rfl⟩
def SrtedV (S : Blk) (base : Nat) (cmp : Lin → Lin → Int) (l : List Lin) (v : Value) (w w' : World) : Prop := ∃ m, m.Perm l ∧ Le cmp m ∧ Own RLin 65 S w' base v m ∧ Kl v v w w'
theorem insSort_LinA {S : Blk} {w : World} {base : Nat} {v : Value} {l : List Lin} (h : Own RLin 65 S w base v l) (hbase : base ≤ w.heap.size) (hn : l.length ≤ 12) (g : FuncId) (hen : Ent1 g) (cmp : Lin → Lin → Int) (hc : PreC cmp)
 (hcmp : ∀ (S' T' : Blk) (W : World) (x y : Lin) (cs ds : List Value), RLin.rd S' W cs x → RLin.rd T' W ds y → Calls Tryz.prog g #[.agg cs.toArray, .agg ds.toArray] W fun e w' => e = .returned (.int .i64 (cmp x y)) ∧ Below W.heap.size W w') :
 Calls Tryz.prog 151 #[v, .int .i64 0, .int .i64 l.length, .func (.func g) #[] #[]] w fun e w' => (e = .returned (.tuple #[]) ∧ SrtedV S base cmp l v w w') ∧ Below base w w' := by
 by_cases hl : 0 < l.length
 · exact insSort_Lin h hbase hl (by omega) g hen cmp hc hcmp
 · obtain rfl : l = [] := List.eq_nil_of_length_eq_zero (by omega)
   obtain ⟨a, c, rfl, _⟩ := h.sl
   refine (insSort_Lin0 a c w g).mono ?_
   rintro e _ ⟨rfl, rfl⟩
   exact ⟨⟨rfl, [], List.Perm.refl _, List.Pairwise.nil, h, Kl.refl _ _⟩, Below.refl _ _⟩
theorem pdq_Lin {S : Blk} {w : World} {base : Nat} {v : Value} {l : List Lin} (h : Own RLin 65 S w base v l) (hbase : base ≤ w.heap.size) (hn : l.length ≤ 12) (lim : Int) (g : FuncId) (hen : Ent1 g) (cmp : Lin → Lin → Int) (hc : PreC cmp)
 (hcmp : ∀ (S' T' : Blk) (W : World) (x y : Lin) (cs ds : List Value), RLin.rd S' W cs x → RLin.rd T' W ds y → Calls Tryz.prog g #[.agg cs.toArray, .agg ds.toArray] W fun e w' => e = .returned (.int .i64 (cmp x y)) ∧ Below W.heap.size W w') :
 Calls Tryz.prog 108 #[v, .int .i64 0, .int .i64 l.length, .int .i64 lim, .func (.func g) #[] #[]] w fun e w' => (e = .returned (.tuple #[]) ∧ SrtedV S base cmp l v w w') ∧ Below base w w' := by
 have HI := hJ (insSort_LinA h hbase hn g hen cmp hc hcmp); obtain ⟨a, m, c, rfl⟩ := h.shape; clear h hcmp hc
 generalize SrtedV S base cmp l (.slice a m c) w = Q at *
 generalize l.length = n at *
 have h12 : (n : Int) ≤ 12 := by omega
 go_enter func108, ntmps108
 go_wp2_with fail
 go_loopw [1, 2] (fun a b wr => a = .int .i64 0 ∧ b = .int .i64 n ∧ w = wr) (fun _ _ _ => 0)
 case atStart => exact ⟨rfl, rfl, rfl⟩
 case round =>
  obtain ⟨rfl, rfl, rfl⟩ := hrel
  go_wp2_with fail
  refine HI.out.mono ?_
  rintro e w1 ⟨⟨rfl, hs⟩, hb⟩
  have HS := hJ hs; clear hs
  go_wp2_with fail
  refine bodyPost_ret (results_none rfl _ _ _) rfl ?_
  exact ⟨⟨rfl, HS.out⟩, hb⟩
theorem sortFunc_Lin {S : Blk} {w : World} {base : Nat} {v : Value} {l : List Lin} (h : Own RLin 65 S w base v l) (hbase : base ≤ w.heap.size) (hn : l.length ≤ 12) (g : FuncId) (hen : Ent1 g) (cmp : Lin → Lin → Int) (hc : PreC cmp)
 (hcmp : ∀ (S' T' : Blk) (W : World) (x y : Lin) (cs ds : List Value), RLin.rd S' W cs x → RLin.rd T' W ds y → Calls Tryz.prog g #[.agg cs.toArray, .agg ds.toArray] W fun e w' => e = .returned (.int .i64 (cmp x y)) ∧ Below W.heap.size W w') :
 Calls Tryz.prog 62 #[v, .func (.func g) #[] #[]] w fun e w' => (e = .returned (.tuple #[]) ∧ SrtedV S base cmp l v w w') ∧ Below base w w' := by
 have HI := hJ (fun lim => pdq_Lin h hbase hn lim g hen cmp hc hcmp)
 obtain ⟨a, m, c, rfl⟩ := h.shape; obtain ⟨_, _, q, _⟩ := h.sl; rw [Value.slice.injEq] at q; obtain ⟨-, rfl, -⟩ := q; clear h hcmp hc
 generalize SrtedV S base cmp l _ w = Q at *
 generalize l.length = n at *
 have wr : IntKind.u64.wrap (n : Int) = n := by simp [IntKind.wrap, IntKind.bits, IntKind.signed]; omega
 go_enter func62, ntmps62
 go_wp2_with fail
 refine (Tryz.bits_Len (n : Int) _ (by omega) (by omega)).mono ?_
 rintro e w1 ⟨rfl, rfl⟩
 go_wp2_with fail
 refine (HI.out _).mono ?_
 rintro e w2 ⟨⟨rfl, hs⟩, hb⟩
 have HS := hJ hs; clear hs
 go_wp2_with fail
 go_end0
 exact ⟨⟨rfl, HS.out⟩, hb⟩
theorem Kp.kl {v v' : Value} {w w' : World} (h : Kp v v' w w') : Kl v v' w w' :=
 ⟨h.block, fun q hq => h.own.elim (fun e => .inl (by rw [← e]; exact hq)) (fun e => .inr (by rw [e] at hq; cases hq; exact Nat.le_refl _))⟩
def Apart (T : Blk) (w : World) (v : Value) : Prop := ∀ q, T q → q < w.heap.size ∧ v.ownBlock ≠ some q
theorem Apart.kl {T : Blk} {w w' : World} {v v' : Value} (h : Apart T w v) (k : Kl v v' w w') (hs : w.heap.size ≤ w'.heap.size) : Apart T w' v' := fun q hq => ⟨by have := (h q hq).1; omega, fun e => (k.own q e).elim (h q hq).2 (fun r => by have := (h q hq).1; omega)⟩
theorem Sl.kl {α : Type} {R : Rep α} {T : Blk} {w w' : World} {a : Option Addr} {n c : Nat} {l : List α} {v v' : Value} (h : Sl R T w a n c l) (ha : Apart T w v) (k : Kl v v' w w') : Sl R T w' a n c l := h.frame fun q hq hlt => k.block q hlt (ha q hq).2
theorem Apart.below {T : Blk} {w w' : World} {v : Value} (h : Apart T w v) (hs : w.heap.size ≤ w'.heap.size) : Apart T w' v := fun q hq => ⟨by have := (h q hq).1; omega, (h q hq).2⟩
theorem Own.slAt {α : Type} {R : Rep α} {E : TypeId} {S : Blk} {w : World} {base : Nat} {v : Value} {l : List α} (h : Own R E S w base v l) : ∃ a c, v = .slice a l.length c ∧ Sl R (fun k => S k ∨ At a k) w a l.length c l ∧ ∀ q, At a q → base ≤ q ∧ q < w.heap.size := by
 have hblk := fun {k} => @Own.block _ _ _ _ _ _ _ _ h k
 obtain ⟨css, hl, hrow, hel⟩ := h.row; obtain ⟨a, c, rfl, h1, h2, h3, h4⟩ := kCA hrow
 refine ⟨a, c, rfl, ⟨rfl, h1, h2, h3, fun i x hx => ?_⟩, fun q hq => ?_⟩
 · obtain ⟨cs, hcs, hr⟩ := hel i x hx
   obtain ⟨_, ⟨hv, h0⟩ | ⟨g, cap, cur, hv, hg, hh, hn, hm, hs, ht⟩⟩ := hrow
   · obtain rfl : l = [] := List.eq_nil_of_length_eq_zero h0
     simp at hx
   · rw [Value.slice.injEq] at hv
     obtain ⟨rfl, -, rfl⟩ := hv
     refine ⟨g, 0, cs, rfl, .inr ⟨_, rfl, rfl⟩, R.mono hr (fun k hk _ => .inl hk.1), fun j u hu => ?_⟩
     have hall : ∀ cs ∈ css, cs.length = R.size := fun cs' hm' => by
      obtain ⟨i', hi', rfl⟩ := List.getElem_of_mem hm'
      obtain ⟨cs2, e2, r2⟩ := hel i' (l[i']'(by omega)) (List.getElem?_eq_getElem (by omega))
      rw [List.getElem?_eq_getElem hi'] at e2
      cases e2
      exact R.len r2
     have hu2 := kEC hall i cs j u hcs hu
     have hlt : i * R.size + j < l.length * R.size := by
      have hfl : css.flatten.length = l.length * R.size := by
       have hcl : cur.toList.length = c * R.size := by rw [← hs]; simp
       have : l.length * R.size ≤ c * R.size := Nat.mul_le_mul_right _ h1
       rw [← ht, List.length_take, hcl]
       omega
      rw [← hfl]
      rcases Nat.lt_or_ge (i * R.size + j) css.flatten.length with q | q
      · exact q
      · rw [List.getElem?_eq_none q] at hu2; cases hu2
     rw [Nat.zero_add]
     have : cur.toList[i * R.size + j]? = some u := by
      rw [← ht, List.getElem?_take, if_pos hlt] at hu2
      exact hu2
     simp [World.cell?, hh]
     rw [← Array.getElem?_toList]
     exact this
 · obtain ⟨b, rfl, rfl⟩ := hq
   exact hblk (by rfl)
theorem Own.self {α : Type} {R : Rep α} {E : TypeId} {w : World} {base : Nat} {v : Value} {l : List α} (h : Own R E (fun _ => False) w base v l) : ∃ a c, v = .slice a l.length c ∧ Sl R (At a) w a l.length c l ∧ ∀ q, At a q → base ≤ q ∧ q < w.heap.size := by
 obtain ⟨a, c, e, hs, hq⟩ := h.slAt
 exact ⟨a, c, e, hs.mono (fun q r _ => r.elim False.elim id), hq⟩
def Bare (l : List Bnd) : Prop := ∀ x ∈ l, x = bare x.kind x.v
theorem InvV.bare {l : List Bnd} (h : InvV l) : Bare l := fun x hx => (h.good x hx).1
theorem bare_rd {S S' : Blk} {w w' : World} {cs : List Value} {x : Bnd} (h : RBnd.rd S w cs x) (hb : x = bare x.kind x.v) : RBnd.rd S' w' cs x := by
 obtain ⟨t, d, rfl, ⟨a, c, rfl, h1⟩, ⟨a2, c2, rfl, h2⟩⟩ := h
 have e1 : x.dim.terms = [] := by rw [hb]; rfl
 have e2 : x.row.dims = [] := by rw [hb]; rfl
 refine ⟨_, _, rfl, ⟨a, c, rfl, ⟨h1.len, h1.cap, h1.max, h1.nil, fun i y hy => ?_⟩⟩, ⟨a2, c2, rfl, ⟨h2.len, h2.cap, h2.max, h2.nil, fun i y hy => ?_⟩⟩⟩
 · rw [e1] at hy; simp at hy
 · rw [e2] at hy; simp at hy
theorem addBs_next {l0 m : List Bnd} {j : Nat} (h : j < m.length) : addBs l0 (m.take (j + 1)) = addV (addBs l0 (m.take j)) (m.getD j default).kind (m.getD j default).v := by
 unfold addBs
 rw [kAU h, List.foldl_append]; rfl
theorem varsAll_next {l : List Typ} {k : Nat} (h : k < l.length) : kBE (l.take (k + 1)) = addBs (kBE (l.take k)) (kBQ (l.getD k default)) := by
 unfold kBE
 rw [kAU h, List.foldl_append]; rfl
theorem kGP {S : Blk} {w : World} {base : Nat} {v : Value} {l : List Bnd} (h : Own RBnd 103 S w base v l) (hbase : base ≤ w.heap.size) (hl : l.length ≤ 1000000) (kind : Int) (name : Str) :
 Calls Tryz.prog 126 #[v, .int .i64 kind, .string name] w fun e w' => (∃ v', e = .returned v' ∧ Own RBnd 103 S w' base v' (addV l kind name) ∧ Kl v v' w w') ∧ Below base w w' := by
 obtain ⟨a, c, rfl, hsl⟩ := h.sl; have HO := hJ h; have HC := hJ (kEA l a _ c w hsl kind name)
 have HN : Hid (addV l kind name = if 0 ≤ kBA l kind name then l else l ++ [bare kind name]) := hJ rfl
 clear h hsl
 generalize kBA l kind name = d at *
 by_cases hd : 0 ≤ d
 · have HF : Hid (addV l kind name = l) := hJ (by rw [HN.out, if_pos hd])
   go_enter func126, ntmps126
   go_wp2_with fail
   refine (HC.out).mono ?_
   rintro e _ ⟨rfl, rfl⟩
   go_wp2_with fail
   go_ret
   exact ⟨⟨_, rfl, by rw [HF.out]; exact HO.out, Kl.refl _ _⟩, Below.refl _ _⟩
 · have HF : Hid (addV l kind name = l ++ [bare kind name]) := hJ (by rw [HN.out, if_neg hd])
   have hd2 : d < 0 := by omega
   go_enter func126, ntmps126
   go_wp2_with fail
   refine HC.out.mono ?_
   rintro e _ ⟨rfl, rfl⟩
   go_wp2_with (at_builtin; refine kA8 kD4 rfl _ _ rfl base _ _ rfl (HO.out.alloc _) _ (bare kind name) [.int .i64 kind, .string name, .int .i64 0, .slice none 0 0, .string ⟨#[]⟩, .slice none 0 0, .string ⟨#[]⟩] rfl ⟨_, _, rfl, ⟨none, 0, rfl, Sl.empty _ _ _⟩, ⟨none, 0, rfl, Sl.empty _ _ _⟩⟩ (kA4 103 (by (simp only [kAG, kAE, Array.getElem?_push, Array.size_push]; simp))) (by omega) (by unfold maxLen; omega) (by simp; omega) ?_; intro v9 w9 hown9 hb9 hk9)
   go_ret
   exact ⟨⟨_, rfl, by rw [HF.out]; exact hown9, (Kl.below ((Below.refl _ _).alloc (Nat.le_refl _) _)).trans hk9.kl (by simp)⟩, ((Below.refl _ _).alloc hbase _).trans hb9⟩
theorem types_with {T : Blk} {w : World} {base : Nat} {v : Value} {l : List Bnd} (h : Own RBnd 103 (fun _ => False) w base v l) (hbase : base ≤ w.heap.size) (m : List Bnd) (a : Option Addr) (n c : Nat) (hm : Sl RBnd T w a n c m) (hT : Apart T w v) (hb : Bare m) (hl : l.length + n ≤ 1000000) :
 Calls Tryz.prog 100 #[v, .slice a n c] w fun e w' => (∃ v', e = .returned v' ∧ Own RBnd 103 (fun _ => False) w' base v' (addBs l m) ∧ Kl v v' w w') ∧ Below base w w' := by
 have hml := hm.len; have HML := hJ hml; have HO := hJ h; have HS := hJ hm; have HT := hJ hT; have HBare := hJ hb; have hsm := hm.small; obtain ⟨a0, m0, c0, rfl⟩ := h.shape; clear hml h hm hT hb
 go_enter func100, ntmps100
 go_wp2_with fail
 go_loopw [0, 9] (fun v i wr => ∃ (j : Nat) (v0 : Value), j ≤ n ∧ i = .int .i64 j ∧ v0 = v ∧ Hid (Own RBnd 103 (fun _ => False) wr base v (addBs l (m.take j))) ∧ Hid (Sl RBnd T wr a n c m) ∧ Hid (Apart T wr v) ∧ Hid (Kl (.slice a0 m0 c0) v w wr) ∧ Below base w wr) (fun _ i _ => n - (intOf i).toNat)
 case atStart => exact ⟨0, _, Nat.zero_le _, rfl, rfl, HO, HS, HT, hJ (Kl.refl _ _), Below.refl _ _⟩
 case round =>
  obtain ⟨j, v0, hj, rfl, rfl, HO, HS, HT, HK, hB⟩ := hrel; have hsz := hB.size
  by_cases hlt : j < n
  · obtain ⟨b, off, rfl, hbW, _⟩ := HS.out.form j hlt
    obtain ⟨t, d, hr, ⟨⟨ta, tc, rfl, _⟩, ⟨da, dc, rfl, _⟩⟩, e0, e1, e2, e3, e4, e5, e6⟩ := HS.out.bnd j hlt
    have hjm : j < m.length := by rw [HML.out]; exact hlt
    have HStep := hJ (addBs_next (l0 := l) hjm); have HBx := hJ (HBare.out _ (kAI hjm))
    have HLen : Hid ((addBs l (m.take j)).length ≤ 999999) := hJ (by
     have q1 := addBs_len (m.take j) l; rw [List.length_take] at q1
     omega)
    clear hjm
    generalize m.getD j default = x at *
    have HR := hJ (fun (S' : Blk) (w' : World) => bare_rd (S' := S') (w' := w') hr HBx.out)
    obtain ⟨a3, m3, c3, rfl⟩ := HO.out.shape; obtain ⟨_, _, q3, hsl3⟩ := HO.out.sl; rw [Value.slice.injEq] at q3; obtain ⟨rfl, rfl, rfl⟩ := q3
    have HC := hJ (fun (W : World) (hW : Below wr.heap.size wr W) => types_find _ a3 _ c3 W (hsl3.below hW) x.kind x.v)
    have HOld := hJ (fun q => addV_old (l := addBs l (m.take j)) (k := x.kind) (v := x.v) q)
    have HNew := hJ (fun q => addV_new (l := addBs l (m.take j)) (k := x.kind) (v := x.v) q)
    clear hsl3 hr
    generalize addBs l (m.take j) = l1 at *
    generalize kBA l1 x.kind x.v = q at *
    have HA : Hid (Below wr.heap.size wr (wr.alloc (.cells #[.int .i64 x.kind, .string x.v, .int .i64 x.dim.const, .slice ta x.dim.terms.length tc, .string x.row.row, .slice da x.row.dims.length dc, .string x.elem] 103))) := hJ ((Below.refl _ _).alloc (Nat.le_refl _) _)
    have HP := hJ (Bx.fresh wr 103 [.int .i64 x.kind, .string x.v, .int .i64 x.dim.const, .slice ta x.dim.terms.length tc, .string x.row.row, .slice da x.row.dims.length dc, .string x.elem])
    by_cases hq : q < 0
    · have HNew : Hid (addV l1 x.kind x.v = l1 ++ [x]) := hJ (by rw [HNew.out hq, ← HBx.out])
      go_wp2_with fail
      refine (HC.out _ HA.out).mono ?_
      rintro e w4 ⟨rfl, hb4⟩
      have HP4 := hJ (HP.out.below hb4 (by simp))
      have p0 := HP4.out.cell 0 _ rfl; have p1 := HP4.out.cell 1 _ rfl; have p2 := HP4.out.cell 2 _ rfl; have p3 := HP4.out.cell 3 _ rfl; have p4 := HP4.out.cell 4 _ rfl; have p5 := HP4.out.cell 5 _ rfl; have p6 := HP4.out.cell 6 _ rfl; have HB4 := hJ (HA.out.trans (hb4.mono HA.out.size)); have hz4 := HB4.out.size
      go_wp2_with (at_builtin; refine kA8 kD4 rfl _ _ rfl base _ _ rfl ((HO.out.below HB4.out).alloc _) _ x [.int .i64 x.kind, .string x.v, .int .i64 x.dim.const, .slice ta x.dim.terms.length tc, .string x.row.row, .slice da x.row.dims.length dc, .string x.elem] rfl (HR.out _ _) (kA4 103 (by (simp only [kAG, kAE, Array.getElem?_push, Array.size_push]; simp))) (by have := HLen.out; omega) (by have := HLen.out; unfold maxLen; omega) (by simp; omega) ?_; intro v9 w9 hown9 hb9 hk9; obtain ⟨a9, m9, c9, rfl⟩ := hown9.shape)
      have HK9 : Hid (Kl _ _ wr w9) := hJ ((Kl.below (HB4.out.alloc HB4.out.size _)).trans hk9.kl (by simp; omega))
      have hz9 : wr.heap.size ≤ w9.heap.size := by have := hb9.size; simp at this; omega
      go_roundw
      case rel => exact ⟨j + 1, _, by omega, by go_num, rfl, hJ (by rw [HStep.out, HNew.out]; exact hown9), hJ (HS.out.kl HT.out HK9.out), hJ (HT.out.kl HK9.out hz9), hJ (HK.out.trans HK9.out hsz), (hB.trans ((HB4.out.alloc HB4.out.size _).mono (by omega))).trans hb9⟩
      case measure => simp [intOf]; omega
    · have HOld := hJ (HOld.out (by omega))
      have hq2 : 0 ≤ q := by omega
      clear hq
      go_wp2_with fail
      refine (HC.out _ HA.out).mono ?_
      rintro e w4 ⟨rfl, hb4⟩
      have HB4 := hJ (HA.out.trans (hb4.mono HA.out.size)); have hz4 := HB4.out.size
      go_wp2_with fail
      go_roundw
      case rel => exact ⟨j + 1, _, by omega, by go_num, rfl, hJ (by rw [HStep.out, HOld.out]; exact HO.out.below HB4.out), hJ (HS.out.below HB4.out), hJ (HT.out.below hz4), hJ (HK.out.trans (Kl.below HB4.out) hsz), hB.trans (HB4.out.mono (by omega))⟩
      case measure => simp [intOf]; omega
  · have HAll : Hid (m.take j = m) := hJ (List.take_of_length_le (by rw [HML.out]; omega))
    obtain ⟨a3, m3, c3, rfl⟩ := HO.out.shape
    go_wp2_with fail
    go_ret
    exact ⟨⟨_, rfl, by have := HO.out; rwa [HAll.out] at this, HK.out⟩, hB⟩
theorem zeroCells_size (z : Array Value) (n : Nat) : (Builtin.zeroCells z n).size = n * z.size := by simp [Builtin.zeroCells]
theorem grow_Typ (n : Nat) (h1 : 1 ≤ n) (hn : n ≤ 1000) (w : World) :
 Calls Tryz.prog 140 #[.slice none 0 0, .int .i64 n] w fun e w' => (∃ c, e = .returned (.slice (some ⟨w.heap.size, 0, none⟩) 0 c) ∧ Own RTyp 39 (fun _ => False) w' w.heap.size (.slice (some ⟨w.heap.size, 0, none⟩) 0 c) []) ∧ Below w.heap.size w w' := by
 obtain ⟨i0, z, hi, hz, hs, hb, hzs⟩ := kGE.parts
 have hbig : (0 + n) * i0.bytes ≤ 140737488355328 := by rw [hb]; omega
 refine (Go.Proofs.Any8.slices_Grow_grow Tryz.growT i0 z hi hz (by rw [hs]; decide) none 0 0 n [] w (Nat.le_refl _) (by omega) hbig (by omega) (by simp) (fun _ => rfl) (fun a h => by cases h)).mono ?_
 rintro e w' ⟨rfl, rfl⟩
 refine ⟨⟨_, rfl, ⟨[], rfl, ⟨by simp, .inr ⟨w.heap.size, _, (([] : List Value).toArray ++ Builtin.zeroCells z.cells (0 + n - 0)) ++ Builtin.zeroCells z.cells (grownCap w (0 + n) 0 39 - (0 + n)), rfl, Nat.le_refl _, ?_, Nat.zero_le _, grownCap_le_maxLen _ _ _ _ (by unfold maxLen; omega), ?_, by simp⟩⟩, fun i x hx => by simp at hx⟩⟩, ((Below.refl _ _).drew).alloc (Nat.le_refl _) _⟩
 · show ((w.drew.heap).push _)[w.heap.size]? = _
   rw [show w.drew.heap = w.heap from rfl]
   simp
   exact ⟨rfl, rfl⟩
 · have hge := grownCap_ge w (0 + n) 0 39
   simp only [Array.size_append, zeroCells_size, hzs]
   have hG : grownCap w (0 + n) 0 (Tryz.growT_ren.t 25) = grownCap w (0 + n) 0 39 := rfl
   have h3 : RTyp.size = 3 := rfl
   rw [hG, h3]
   simp only [List.size_toArray, List.length_nil]
   generalize grownCap w (0 + n) 0 39 = G at *
   omega
theorem concat_Typ {S1 S2 : Blk} (l1 l2 : List Typ) (a1 : Option Addr) (n1 c1 : Nat) (a2 : Option Addr) (n2 c2 : Nat) (g : Nat) (w : World) (hbx : Bx w g 34 [.slice a1 n1 c1, .slice a2 n2 c2]) (h1 : Sl RTyp S1 w a1 n1 c1 l1) (h2 : Sl RTyp S2 w a2 n2 c2 l2) (hn : n1 + n2 ≤ 1000) (hp : 1 ≤ n1 + n2) :
 Calls Tryz.prog 99 #[.slice (some ⟨g, 0, none⟩) 2 2] w fun e w' => (∃ v, e = .returned v ∧ Own RTyp 39 (fun k => S1 k ∨ S2 k) w' w.heap.size v (l1 ++ l2)) ∧ Below w.heap.size w w' := by
 have hl1 := h1.len; have hl2 := h2.len; have HL1 := hJ hl1; have HL2 := hJ hl2; have H1 := hJ h1; have H2 := hJ h2; have HB := hJ hbx; have b0 := hbx.cell 0 _ rfl; have b1 := hbx.cell 1 _ rfl; have hgl := hbx.lt; have HG := hJ (grow_Typ (n1 + n2) hp hn w); rw [Int.natCast_add] at HG; clear h1 h2 hbx hl1 hl2
 go_enter func99, ntmps99
 go_wp2_with fail
 go_loopw [3, 11] (fun sz i wr => w = wr ∧ ((i = .int .i64 0 ∧ sz = .int .i64 0) ∨ (i = .int .i64 1 ∧ sz = .int .i64 n1) ∨ (i = .int .i64 2 ∧ sz = .int .i64 ((n1 : Int) + n2)))) (fun _ i _ => 2 - (intOf i).toNat)
 case atStart => exact ⟨rfl, .inl ⟨rfl, rfl⟩⟩
 case round =>
  obtain ⟨rfl, ⟨rfl, rfl⟩ | ⟨rfl, rfl⟩ | ⟨rfl, rfl⟩⟩ := hrel
  · go_wp2_with fail
    go_roundw
    case rel => exact ⟨trivial, .inr (.inl ⟨rfl, by go_num⟩)⟩
    case measure => simp [intOf]
  · go_wp2_with fail
    go_roundw
    case rel => exact ⟨trivial, .inr (.inr ⟨rfl, by go_num⟩)⟩
    case measure => simp [intOf]
  · go_wp2_with fail
    refine HG.out.mono ?_
    rintro e w1 ⟨⟨c, rfl, hown⟩, hb1⟩
    have HO := hJ (hown.mono (S' := fun k => S1 k ∨ S2 k) (fun k h _ => h.elim))
    have d0 := kAC b0 _ hb1; have d1 := kAC b1 _ hb1; have HB1 := hJ (HB.out.below hb1 hgl); clear hown b0 b1
    go_wp2_with fail
    go_loopw [6, 27] (fun v i wr => ∃ v0 : Value, v0 = v ∧ Below w.heap.size w wr ∧ Hid (∀ q, v.ownBlock = some q → w.heap.size ≤ q) ∧ ((i = .int .i64 0 ∧ Hid (Own RTyp 39 (fun k => S1 k ∨ S2 k) wr w.heap.size v [])) ∨ (i = .int .i64 1 ∧ Hid (Own RTyp 39 (fun k => S1 k ∨ S2 k) wr w.heap.size v l1)) ∨ (i = .int .i64 2 ∧ Hid (Own RTyp 39 (fun k => S1 k ∨ S2 k) wr w.heap.size v (l1 ++ l2))))) (fun _ i _ => 2 - (intOf i).toNat)
    case atStart => exact ⟨_, rfl, hb1, hJ (fun q e => HO.out.base_le q e), .inl ⟨rfl, HO⟩⟩
    case round =>
     obtain ⟨v0, rfl, hB, HN, ⟨rfl, HO⟩ | ⟨rfl, HO⟩ | ⟨rfl, HO⟩⟩ := hrel
     · have HB2 := hJ (HB.out.below hB hgl)
       have e0 := HB2.out.cell 0 _ rfl; obtain ⟨a0, m0, c0, rfl⟩ := HO.out.shape; have hsz := hB.size
       go_wp2_with (at_builtin; refine app_sl kGE rfl _ _ rfl w.heap.size _ _ l1 rfl HO.out a1 n1 c1 rfl ((H1.out.later hB HN.out).mono (fun k hk _ => ⟨.inl hk.1, hk.2⟩)) (by simp; omega) (by unfold maxLen; simp; omega) (by omega) ?_; intro v9 w9 hown9 hb9 hk9)
       go_roundw
       case rel => exact ⟨_, rfl, hB.trans hb9, hJ (fun q e => hown9.base_le q e), .inr (.inl ⟨rfl, hown9⟩)⟩
       case measure => simp [intOf]
     · have HB2 := hJ (HB.out.below hB hgl)
       have e1 := HB2.out.cell 1 _ rfl; obtain ⟨a0, m0, c0, rfl⟩ := HO.out.shape; have hsz := hB.size
       go_wp2_with (at_builtin; refine app_sl kGE rfl _ _ rfl w.heap.size _ l1 l2 rfl HO.out a2 n2 c2 rfl ((H2.out.later hB HN.out).mono (fun k hk _ => ⟨.inr hk.1, hk.2⟩)) (by rw [HL1.out]; omega) (by unfold maxLen; rw [HL1.out]; omega) (by omega) ?_; intro v9 w9 hown9 hb9 hk9)
       go_roundw
       case rel => exact ⟨_, rfl, hB.trans hb9, hJ (fun q e => hown9.base_le q e), .inr (.inr ⟨rfl, hown9⟩)⟩
       case measure => simp [intOf]
     · obtain ⟨a0, m0, c0, rfl⟩ := HO.out.shape
       go_wp2_with fail
       go_ret
       exact ⟨⟨_, rfl, HO.out⟩, hB⟩
def kEZ (b : List Bnd) : Prop := ∀ y ∈ b, y.row.dims = []
theorem subRow_dims {b : List Bnd} (h : kEZ b) (s : Shp) : (kCE b s).dims = [] := by
 unfold kCE
 split
 · rfl
 · split
   · next q => exact h _ (find_hit q).1
   · rfl
theorem ok_dims {b : List Bnd} (h : kEZ b) {s : Shp} (hv : kAL s = true) : kA5 b s = dimsOk b s := by
 unfold kA5
 rw [subRow_dims h, decide_eq_true (by have := (kBW hv).1; simpa using this), Bool.and_true]
theorem subShp_good {b : List Bnd} (h : kEZ b) {s : Shp} (hv : kAL s = true) (hd : ∀ i, i < s.dims.length → kAD (kAF b (s.dims.getD i default)) = true) : kFT b s = ⟨(kCE b s).row, s.dims.map (kAF b)⟩ ∧ kCN b s = 0 := by
 have : kA5 b s = true := by
  rw [ok_dims h hv]
  unfold dimsOk
  rw [List.all_eq_true]
  intro x hx
  obtain ⟨i, hi, e⟩ := List.getElem_of_mem hx
  have := hd i hi
  rw [List.getD_eq_getElem?_getD, List.getElem?_eq_getElem hi] at this
  rw [← e]; exact this
 unfold kFT kCN
 rw [this]
 refine ⟨?_, rfl⟩
 show kF4 b s = _
 unfold kF4
 rw [subRow_dims h]; rfl
theorem subShp_bad {b : List Bnd} (h : kEZ b) {s : Shp} (hv : kAL s = true) {i : Nat} (hi : i < s.dims.length) (hd : kAD (kAF b (s.dims.getD i default)) = false) : kFT b s = noShp ∧ kCN b s = 3 := by
 have : kA5 b s = false := by
  rw [ok_dims h hv]
  unfold dimsOk
  rw [List.all_eq_false]
  exact ⟨_, kAI hi, by rw [hd]; decide⟩
 unfold kFT kCN
 rw [this]
 exact ⟨rfl, rfl⟩
theorem kDT {x : Lin} (h : kAD x = true) : limL x = x ∧ limE x = 0 := by unfold limL limE; rw [h]; exact ⟨rfl, rfl⟩
theorem lim_bad {x : Lin} (h : kAD x = false) : limL x = ⟨0, []⟩ ∧ limE x = 3 := by unfold limL limE; rw [h]; exact ⟨rfl, rfl⟩
theorem shape_made {S : Blk} (row : Str) (l : List Lin) (a : Option Addr) (n c : Nat) (w : World) (h : Sl RLin S w a n c l) (hn : n ≤ 6) (hl : ∀ x ∈ l, x.terms.length ≤ 1000) :
 Calls Tryz.prog 197 #[.string row, .slice a n c] w fun e w' => (∃ ds, e = .returned (.tuple #[.agg ds.toArray, .int .i64 0]) ∧ RShp.rd (fun k => w.heap.size ≤ k) w' ds ⟨row, l⟩) ∧ Below w.heap.size w w' := by
 have HL := hJ h.len
 have B0 : Hid (Below w.heap.size w (w.alloc (.cells #[.string ⟨#[]⟩, .slice none 0 0] 37))) := hJ ((Below.refl _ _).alloc (Nat.le_refl _) _)
 have HC := hJ (shape_clones l a n c _ (h.below B0.out) (by omega) hl)
 have HT := hJ (Bx.fresh w 37 [.string ⟨#[]⟩, .slice none 0 0]); clear h hl
 go_enter func197, ntmps197
 go_wp2_with fail
 refine HC.out.mono ?_
 rintro e w1 ⟨⟨v, rfl, hown⟩, hb⟩
 obtain ⟨a1, c1, rfl, hs1⟩ := hown.sl
 rw [HL.out] at hs1 ⊢
 have HX := hJ (HT.out.below hb (by simp))
 have u0 := HX.out.cell 0 _ rfl; have u1 := HX.out.cell 1 _ rfl; have u2 := HX.out.fz 0; have u3 := HX.out.fz 1; have HX60 := hJ ((HX.out.set 0 (.string row)).set 1 (.slice a1 n c1)); have s0 := HX60.out.cell 0 _ rfl; have s1 := HX60.out.cell 1 _ rfl; have HS1 := hJ hs1; clear hs1 hown
 go_wp2_with fail
 refine bodyPost_ret (v := .tuple #[.agg #[.string row, .slice a1 n c1], .int .i64 0]) (by simp [results, results197, go_sem, s0, s1]) rfl ?_
 refine ⟨⟨[.string row, .slice a1 n c1], rfl, ⟨_, rfl, a1, c1, by rw [HL.out], ?_⟩⟩, ((B0.out.trans (hb.mono (by simp))).setCell (Nat.le_refl _) _).setCell (Nat.le_refl _) _⟩
 show Sl RLin _ _ a1 l.length c1 l
 rw [HL.out]
 refine (HS1.out.frame fun q hq _ => ?_).mono (fun q hq _ => ?_)
 · have hq : w.heap.size + 1 ≤ q := by rcases hq with hq | hq <;> simpa using hq
   rw [kAA (by show w.heap.size ≠ q; omega), kAA (by show w.heap.size ≠ q; omega)]
 · have hq : w.heap.size + 1 ≤ q := by rcases hq with hq | hq <;> simpa using hq
   omega
theorem clones_none {S : Blk} (a : Option Addr) (c : Nat) (w : World) : Calls Tryz.prog 196 #[.slice a 0 c] w fun e w' => e = .returned (.slice none 0 0) ∧ w = w' := by
 go_enter func196, ntmps196
 go_wp2_with fail
 go_loopw [3, 8] (fun v i wr => i = .int .i64 0 ∧ v = .slice none 0 0 ∧ w = wr) (fun _ i _ => 0)
 case atStart => exact ⟨rfl, rfl, rfl⟩
 case round =>
  obtain ⟨rfl, rfl, rfl⟩ := hrel
  go_wp2_with fail
  go_ret
  exact ⟨rfl, rfl⟩
theorem shape_Subst {S T : Blk} {s : Shp} {cs : List Value} {w : World} (h : RShp.rd S w cs s) (hv : kAL s = true) (b : List Bnd) (a : Option Addr) (nb cb : Nat) (hbs : Sl RBnd T w a nb cb b) (hb : kBG b = true) (hp : kEZ b) (E : Env w) :
 Calls Tryz.prog 146 #[.agg cs.toArray, .slice a nb cb] w fun e w' => (∃ ds, e = .returned (.tuple #[.agg ds.toArray, .int .i64 (kCN b s)]) ∧ RShp.rd (fun k => w.heap.size ≤ k) w' ds (kFT b s)) ∧ Below w.heap.size w w' := by
 have HCV : Hid (∀ W, Below w.heap.size w W → Calls Tryz.prog 128 #[.agg cs.toArray] W fun e w' => e = .returned (.bool true) ∧ Below W.heap.size W w') :=
  hJ (fun W hW => hv ▸ kDJ (RShp.below h hW) (shp_sz hv) (E.below hW))
 have HCB : Hid (∀ W, Below w.heap.size w W → Calls Tryz.prog 104 #[.slice a nb cb] W fun e w' => e = .returned (.bool true) ∧ Below W.heap.size W w') :=
  hJ (fun W hW => kDB b a nb cb W (hbs.below hW) hb (E.below hW))
 obtain ⟨_, rfl, ad, cd, rfl, hds⟩ := h; have HDs := hJ hds; have HBS := hJ hbs; have HD := hJ (kBW hv); have HG := hJ (kC0 hb); have HP := hJ hp; have EE := hJ E
 have HGood := hJ (fun q => subShp_good (b := b) (s := s) hp hv q)
 have HBad := hJ (fun (i : Nat) (q1 : i < s.dims.length) q2 => subShp_bad (b := b) (s := s) hp hv q1 q2)
 have HRow : Hid (kCE b s = if s.row.toList.isEmpty then ⟨s.row, []⟩ else if 0 ≤ kBA b 2 s.row then (b.getD (kBA b 2 s.row).toNat default).row else ⟨s.row, []⟩) := hJ rfl
 have hmd := hds.small; have hnb := hbs.small; have hd6 := (kBW hv).1; clear hds hbs hv hb hp E
 generalize hnd : s.dims.length = n at *
 have HND := hJ hnd; clear hnd; obtain ⟨B0, ya, yb, hW0⟩ := box2 w 37 [.string s.row, .slice ad n cd] 37 [.string ⟨#[]⟩, .slice none 0 0]; have xa0 := box0 ya 0 _ rfl; have xa1 := box0 ya 1 _ rfl; have xb0 := box0 yb 0 _ rfl; have xb1 := box0 yb 1 _ rfl
 have bka : Bx _ _ _ _ := ya; have bkb : Bx _ _ _ _ := yb
 clear ya yb; have HB4 := hJ bkb; clear bka bkb
 go_enter func146, ntmps146
 go_wp2_with fail
 refine (HCV.out _ B0.out).mono ?_
 rintro e w1 ⟨rfl, hb1⟩
 have hW1 := B0.out.trans (hb1.mono B0.out.size)
 go_wp2_with fail
 refine (HCB.out _ hW1).mono ?_
 rintro e w2 ⟨rfl, hb2⟩
 have HW := hJ (hW1.trans (hb2.mono hW1.size)); have y0 := kAC (kAC xa0 _ hb1) _ hb2; have y1 := kAC (kAC xa1 _ hb1) _ hb2; have HX4 := hJ ((HB4.out.below hb1 HB4.out.lt).below hb2 (HB4.out.below hb1 HB4.out.lt).lt); have hl4 := HX4.out.lt; clear xa0 xa1 xb0 xb1 hb1 hb2 hW1 HB4; have HCF := hJ (kFL b a nb cb w2 (HBS.out.below HW.out) 2 s.row)
 have HFnd : Hid (0 ≤ kBA b 2 s.row → ∃ k : Nat, kBA b 2 s.row = (k : Int) ∧ k < b.length) := hJ (fun q => by
  unfold kBA idx at q ⊢
  by_cases ha : b.any (isB 2 s.row) = true
  · rw [if_pos ha] at q ⊢
    exact ⟨b.findIdx (isB 2 s.row), rfl, (kFH ha).1⟩
  · rw [if_neg ha] at q; omega)
 go_wp2_with fail
 refine (HCF.out).mono ?_
 rintro e w3 ⟨rfl, hb3⟩
 have HW3 := hJ (HW.out.trans (hb3.mono HW.out.size)); have g0 := kAC y0 _ hb3; have g1 := kAC y1 _ hb3; have HX43 := hJ (HX4.out.below hb3 hl4); have hl43 := HX43.out.lt; clear y0 y1 hb3 HX4
 by_cases he : s.row.toList.isEmpty = true
 · have HR : Hid (kCE b s = ⟨s.row, []⟩) := hJ (by rw [HRow.out, if_pos he])
   generalize kBA b 2 s.row = q at *
   go_wp2_with fail
   go_loopw [7, 51] (fun v i wr => ∃ (k : Nat) (v0 : Value), k ≤ n ∧ i = .int .i64 k ∧ v0 = v ∧ Hid (∀ i, i < k → kAD (kAF b (s.dims.getD i default)) = true) ∧ Hid (Own RLin 65 (fun q => w3.heap.size ≤ q) wr w3.heap.size v ((s.dims.take k).map (kAF b))) ∧ Below w3.heap.size w3 wr) (fun _ i _ => n - (intOf i).toNat)
   case atStart => exact ⟨0, _, Nat.zero_le _, rfl, rfl, hJ (fun i hi => absurd hi (by omega)), hJ (Own.nil _ _ _ _ _), Below.refl _ _⟩
   case round =>
    obtain ⟨k, v0, hk, rfl, rfl, HT, HO, hB⟩ := hrel
    by_cases hlt : k < n
    · obtain ⟨b1, off, rfl, hbW, _⟩ := HDs.out.form k hlt
      have HBw := hJ (HW3.out.trans (hB.mono HW3.out.size)); obtain ⟨t, hr, ⟨at_, ct, rfl, hts⟩, c0, c1⟩ := (HDs.out.below HBw.out).lin k hlt
      have HK : Hid (k < s.dims.length) := hJ (by rw [HND.out]; exact hlt)
      have HNext : Hid ((s.dims.take (k + 1)).map (kAF b) = (s.dims.take k).map (kAF b) ++ [kAF b (s.dims.getD k default)]) := hJ (by rw [kAU HK.out, List.map_append]; rfl)
      have hkl : ((s.dims.take k).map (kAF b)).length = k := by rw [List.length_map, List.length_take, HND.out]; omega
      have HBk := hJ (HBad.out k hlt)
      have HUp := hJ (fun q => upto HT.out (p := fun j => kAD (kAF b (s.dims.getD j default)) = true) q)
      have HXv := hJ (HD.out.2 _ (kAI HK.out))
      have HC := hJ (fun (W' : World) (hW' : Below wr.heap.size wr W') => kDS (RLin.below hr hW') HXv.out b _ nb cb (HBS.out.below (HBw.out.trans (hW'.mono HBw.out.size))) HG.out (EE.out.below (HBw.out.trans (hW'.mono HBw.out.size))))
      clear hr hts
      generalize s.dims.getD k default = x at *
      generalize (s.dims.take k).map (kAF b) = lk at *
      have hA : Below wr.heap.size wr (wr.alloc (.cells #[.int .i64 x.const, .slice at_ x.terms.length ct] 65)) := (Below.refl _ _).alloc (Nat.le_refl _) _
      have HCx := hJ (HC.out _ hA); have hX43w := HX43.out.below hB hl43
      by_cases hvx : kAD (kAF b x) = true
      · obtain ⟨e1, e2⟩ := kDT hvx
        rw [e1, e2] at HCx; have HUp := hJ (HUp.out hvx); clear e1 e2 hvx
        go_wp2_with fail
        refine HCx.out.mono ?_
        rintro e w5 ⟨⟨_, rfl, hr5⟩, hb5⟩
        obtain ⟨_, rfl, a5, c5, rfl, hs5⟩ := hr5
        have HB5 : Hid (Below wr.heap.size wr w5) := hJ (hA.trans (hb5.mono (by simp)))
        have hsz5 : w3.heap.size ≤ w5.heap.size := by have h1 := HB5.out.size; have h2 := hB.size; omega
        have HRY : Hid (RLin.rd (fun q => w3.heap.size ≤ q ∧ v0.ownBlock ≠ some q) w5 [.int .i64 (kAF b x).const, .slice a5 (kAF b x).terms.length c5] (kAF b x)) := hJ ⟨_, rfl, a5, c5, rfl, hs5.mono (fun q hq _ => by
         have hq : wr.heap.size + 1 ≤ q := by simpa using hq
         refine ⟨by have := hB.size; omega, fun e => ?_⟩
         have := (HO.out.block e).2
         omega)⟩
        go_wp2_with (at_builtin; refine kA8 kBJ rfl _ _ rfl w3.heap.size _ _ rfl (((HO.out.below HB5.out).alloc _).alloc _) _ (kAF b x) [.int .i64 (kAF b x).const, .slice a5 (kAF b x).terms.length c5] rfl (RLin.below HRY.out (((Below.refl _ _).alloc (Nat.le_refl _) _).alloc (by simp) _)) (kA4 65 (by (simp only [kAG, kAE, Array.getElem?_push, Array.size_push]; simp))) (by omega) (by unfold maxLen; omega) (by simp; omega) ?_; intro v9 w9 hown9 hb9 hk9)
        go_roundw
        case rel => exact ⟨k + 1, _, by omega, by go_num, rfl, HUp, hJ (by rw [HNext.out]; exact hown9), (hB.trans (HB5.out.mono hB.size)).trans ((((Below.refl _ _).alloc hsz5 _).alloc (by simp; omega) _).trans hb9)⟩
        case measure => simp [intOf]; omega
      · have hvx : kAD (kAF b x) = false := by simpa using hvx
        obtain ⟨e1, e2⟩ := lim_bad hvx; rw [e1, e2] at HCx; obtain ⟨z1, z2⟩ := HBk.out hvx; have HZ1 := hJ z1; have HZ2 := hJ z2; clear e1 e2 hvx z1 z2
        go_wp2_with fail
        refine HCx.out.mono ?_
        rintro e w5 ⟨⟨_, rfl, hr5⟩, hb5⟩
        obtain ⟨_, rfl, a5, c5, rfl, hs5⟩ := hr5
        have HB5 : Hid (Below wr.heap.size wr w5) := hJ (hA.trans (hb5.mono (by simp)))
        have HX45 := hJ (hX43w.below HB5.out hX43w.lt); have hx45 := HX45.out.lt; have u0 := HX45.out.cell 0 _ rfl; have u1 := HX45.out.cell 1 _ rfl; have u2 := HX45.out.fz 0; have u3 := HX45.out.fz 1; have HX60 := hJ ((HX45.out.set 0 (.string ⟨#[]⟩)).set 1 (.slice none 0 0)); have s0 := HX60.out.cell 0 _ rfl; have s1 := HX60.out.cell 1 _ rfl
        go_wp2_with fail
        refine bodyPost_ret (v := .tuple #[.agg #[.string ⟨#[]⟩, .slice none 0 0], .int .i64 3]) (by simp [results, results146, go_sem, s0, s1, hx45]) rfl ?_
        refine ⟨⟨[.string ⟨#[]⟩, .slice none 0 0], by rw [HZ2.out], by rw [HZ1.out]; exact ⟨_, rfl, none, 0, rfl, Sl.empty _ _ _⟩⟩, ?_⟩
        exact (((HBw.out.trans (HB5.out.mono HBw.out.size)).setCell (by show _ ≤ w.heap.size + 1; omega) _).setCell (by show _ ≤ w.heap.size + 1; omega) _).alloc (by simp; omega) _
    · obtain rfl : k = n := by omega
      have HAll : Hid ((s.dims.take k).map (kAF b) = s.dims.map (kAF b)) := hJ (by rw [List.take_of_length_le (by rw [HND.out]; exact Nat.le_refl _)])
      obtain ⟨z1, z2⟩ := HGood.out HT.out; rw [HR.out] at z1; have HZ1 := hJ z1; have HZ2 := hJ z2; rw [HAll.out] at HO; obtain ⟨av, cv, rfl, hsv⟩ := HO.out.sl
      have hkl : (s.dims.map (kAF b)).length = k := by rw [List.length_map, HND.out]
      rw [hkl] at hsv ⊢
      have HBw := hJ (HW3.out.trans (hB.mono HW3.out.size))
      have HCM := hJ (shape_made s.row (s.dims.map (kAF b)) av k cv wr hsv hd6 (fun x hx => by
       obtain ⟨y, hy, rfl⟩ := List.mem_map.1 hx; obtain ⟨i, hi, e⟩ := List.getElem_of_mem hy
       have := HT.out i (by rw [← HND.out]; exact hi)
       rw [List.getD_eq_getElem?_getD, List.getElem?_eq_getElem hi] at this; have h2 := kBV this; rw [← e]
       exact Nat.le_trans h2 (by decide)))
      have hX43w := hJ (HX43.out.below hB hl43); clear hsv z1 z2 hkl
      go_wp2_with fail
      refine HCM.out.mono ?_
      rintro e w5 ⟨⟨_, rfl, hr5⟩, hb5⟩
      obtain ⟨_, rfl, a5, c5, rfl, hs5⟩ := hr5; have HX45 := hJ (hX43w.out.below hb5 hX43w.out.lt); have u0 := HX45.out.cell 0 _ rfl; have u1 := HX45.out.cell 1 _ rfl; have u2 := HX45.out.fz 0; have u3 := HX45.out.fz 1; have HS5 := hJ hs5; clear hs5
      have hll : (s.dims.map (kAF b)).length = (s.dims.map (kAF b)).length := rfl
      generalize hLL : (s.dims.map (kAF b)).length = LL at *
      have HLL := hJ hLL; clear hll hLL; have HX60 := hJ ((HX45.out.set 0 (.string s.row)).set 1 (.slice a5 LL c5)); have s0 := HX60.out.cell 0 _ rfl; have s1 := HX60.out.cell 1 _ rfl
      go_wp2_with fail
      refine bodyPost_ret (v := .tuple #[.agg #[.string s.row, .slice a5 LL c5], .int .i64 0]) (by simp [results, results146, go_sem, s0, s1]) rfl ?_
      refine ⟨⟨[.string s.row, .slice a5 LL c5], by rw [HZ2.out], ?_⟩, ?_⟩
      · rw [HZ1.out]
        refine ⟨_, rfl, a5, c5, by rw [← HLL.out], ?_⟩
        have h1 := HS5.out; rw [← HLL.out] at h1
        refine (h1.frame fun q hq _ => ?_).mono (fun q hq _ => by have := HBw.out.size; omega)
        rw [kAA (by have := HBw.out.size; have := hX43w.out.lt; show w.heap.size + 1 ≠ q; omega), kAA (by have := hX43w.out.lt; show w.heap.size + 1 ≠ q; omega)]
      · exact ((HBw.out.trans (hb5.mono HBw.out.size)).setCell (by show _ ≤ w.heap.size + 1; omega) _).setCell (by show _ ≤ w.heap.size + 1; omega) _
 · have he2 : s.row.toList.isEmpty = false := by simpa using he
   by_cases hq : 0 ≤ kBA b 2 s.row
   · obtain ⟨kk, hkk, hkl⟩ := HFnd.out hq
     have hkn : kk < nb := by rw [← HBS.out.len]; exact hkl
     have HPk := hJ (HP.out _ (kAI hkl))
     have HR0 : Hid (kCE b s = (b.getD kk default).row) := hJ (by rw [HRow.out, if_neg he, if_pos hq, hkk]; rfl)
     rw [hkk]; clear hq he HFnd HRow hkk; obtain ⟨bb, boff, rfl, hbb, hSb⟩ := HBS.out.form kk hkn; obtain ⟨td, dd, hr, ⟨⟨at1, ct1, rfl, _⟩, ⟨ad1, cd1, rfl, _⟩⟩, e0, e1, e2, e3, e4, e5, e6⟩ := (HBS.out.below HW3.out).bnd kk hkn; rw [HPk.out] at e5
     have HR : Hid (kCE b s = ⟨(b.getD kk default).row.row, []⟩) := hJ (by rw [HR0.out]; have := HPk.out; revert this; generalize (b.getD kk default).row = rr; intro this; cases rr; simp_all)
     generalize (b.getD kk default).row.row = rr at *
     have e4 := Later.cell e4; have e5 := Later.cell e5; clear hr e0 e1 e2 e3 e6
     have hkn2 : (kk : Int) < (nb : Int) := by omega
     go_wp2_with fail
     refine kAB (by kernel_rfl) (by kernel_rfl) ?_
     repeat (go_big_quiet_step (first | fail | exact Later.same (clones_none (S := S) _ _ _)))
     refine wpQuiet_nil ?_
     rintro _ ⟨t9, rfl⟩
     have HB4 : Hid (Below w3.heap.size w3 t9.w) := hJ t9.b
     generalize t9.w = w4 at *
     have HW4 := hJ (HW3.out.trans (HB4.out.mono HW3.out.size)); have HX44 := hJ (HX43.out.below HB4.out hl43); have g1b := kAC g1 _ HB4.out; clear HW3 HX43 hl43 g0 g1; have HW3 := HW4; have HX43 := HX44; have hl43 := HX44.out.lt; have g1 := g1b; clear HW4 HX44 g1b
     go_wp2_with fail
     go_loopw [7, 51] (fun v i wr => ∃ (k : Nat) (v0 : Value), k ≤ n ∧ i = .int .i64 k ∧ v0 = v ∧ Hid (∀ i, i < k → kAD (kAF b (s.dims.getD i default)) = true) ∧ Hid (Own RLin 65 (fun q => w4.heap.size ≤ q) wr w4.heap.size v ((s.dims.take k).map (kAF b))) ∧ Below w4.heap.size w4 wr) (fun _ i _ => n - (intOf i).toNat)
     case atStart => exact ⟨0, _, Nat.zero_le _, rfl, rfl, hJ (fun i hi => absurd hi (by omega)), hJ (Own.nil _ _ _ _ _), Below.refl _ _⟩
     case round =>
      obtain ⟨k, v0, hk, rfl, rfl, HT, HO, hB⟩ := hrel
      by_cases hlt : k < n
      · obtain ⟨b1, off, rfl, hbW, _⟩ := HDs.out.form k hlt
        have HBw := hJ (HW3.out.trans (hB.mono HW3.out.size)); obtain ⟨t, hr, ⟨at_, ct, rfl, hts⟩, c0, c1⟩ := (HDs.out.below HBw.out).lin k hlt
        have HK : Hid (k < s.dims.length) := hJ (by rw [HND.out]; exact hlt)
        have HNext : Hid ((s.dims.take (k + 1)).map (kAF b) = (s.dims.take k).map (kAF b) ++ [kAF b (s.dims.getD k default)]) := hJ (by rw [kAU HK.out, List.map_append]; rfl)
        have hkl : ((s.dims.take k).map (kAF b)).length = k := by rw [List.length_map, List.length_take, HND.out]; omega
        have HBk := hJ (HBad.out k hlt)
        have HUp := hJ (fun q => upto HT.out (p := fun j => kAD (kAF b (s.dims.getD j default)) = true) q)
        have HXv := hJ (HD.out.2 _ (kAI HK.out))
        have HC := hJ (fun (W' : World) (hW' : Below wr.heap.size wr W') => kDS (RLin.below hr hW') HXv.out b _ nb cb (HBS.out.below (HBw.out.trans (hW'.mono HBw.out.size))) HG.out (EE.out.below (HBw.out.trans (hW'.mono HBw.out.size))))
        clear hr hts
        generalize s.dims.getD k default = x at *
        generalize (s.dims.take k).map (kAF b) = lk at *
        have hA : Below wr.heap.size wr (wr.alloc (.cells #[.int .i64 x.const, .slice at_ x.terms.length ct] 65)) := (Below.refl _ _).alloc (Nat.le_refl _) _
        have HCx := hJ (HC.out _ hA); have hX43w := HX43.out.below hB hl43
        by_cases hvx : kAD (kAF b x) = true
        · obtain ⟨e1, e2⟩ := kDT hvx
          rw [e1, e2] at HCx; have HUp := hJ (HUp.out hvx); clear e1 e2 hvx
          go_wp2_with fail
          refine HCx.out.mono ?_
          rintro e w5 ⟨⟨_, rfl, hr5⟩, hb5⟩
          obtain ⟨_, rfl, a5, c5, rfl, hs5⟩ := hr5
          have HB5 : Hid (Below wr.heap.size wr w5) := hJ (hA.trans (hb5.mono (by simp)))
          have hsz5 : w4.heap.size ≤ w5.heap.size := by have h1 := HB5.out.size; have h2 := hB.size; omega
          have HRY : Hid (RLin.rd (fun q => w4.heap.size ≤ q ∧ v0.ownBlock ≠ some q) w5 [.int .i64 (kAF b x).const, .slice a5 (kAF b x).terms.length c5] (kAF b x)) := hJ ⟨_, rfl, a5, c5, rfl, hs5.mono (fun q hq _ => by
           have hq : wr.heap.size + 1 ≤ q := by simpa using hq
           refine ⟨by have := hB.size; omega, fun e => ?_⟩
           have := (HO.out.block e).2
           omega)⟩
          go_wp2_with (at_builtin; refine kA8 kBJ rfl _ _ rfl w4.heap.size _ _ rfl (((HO.out.below HB5.out).alloc _).alloc _) _ (kAF b x) [.int .i64 (kAF b x).const, .slice a5 (kAF b x).terms.length c5] rfl (RLin.below HRY.out (((Below.refl _ _).alloc (Nat.le_refl _) _).alloc (by simp) _)) (kA4 65 (by (simp only [kAG, kAE, Array.getElem?_push, Array.size_push]; simp))) (by omega) (by unfold maxLen; omega) (by simp; omega) ?_; intro v9 w9 hown9 hb9 hk9)
          go_roundw
          case rel => exact ⟨k + 1, _, by omega, by go_num, rfl, HUp, hJ (by rw [HNext.out]; exact hown9), (hB.trans (HB5.out.mono hB.size)).trans ((((Below.refl _ _).alloc hsz5 _).alloc (by simp; omega) _).trans hb9)⟩
          case measure => simp [intOf]; omega
        · have hvx : kAD (kAF b x) = false := by simpa using hvx
          obtain ⟨e1, e2⟩ := lim_bad hvx; rw [e1, e2] at HCx; obtain ⟨z1, z2⟩ := HBk.out hvx; have HZ1 := hJ z1; have HZ2 := hJ z2; clear e1 e2 hvx z1 z2
          go_wp2_with fail
          refine HCx.out.mono ?_
          rintro e w5 ⟨⟨_, rfl, hr5⟩, hb5⟩
          obtain ⟨_, rfl, a5, c5, rfl, hs5⟩ := hr5
          have HB5 : Hid (Below wr.heap.size wr w5) := hJ (hA.trans (hb5.mono (by simp)))
          have HX45 := hJ (hX43w.below HB5.out hX43w.lt); have hx45 := HX45.out.lt; have u0 := HX45.out.cell 0 _ rfl; have u1 := HX45.out.cell 1 _ rfl; have u2 := HX45.out.fz 0; have u3 := HX45.out.fz 1; have HX60 := hJ ((HX45.out.set 0 (.string ⟨#[]⟩)).set 1 (.slice none 0 0)); have s0 := HX60.out.cell 0 _ rfl; have s1 := HX60.out.cell 1 _ rfl
          go_wp2_with fail
          refine bodyPost_ret (v := .tuple #[.agg #[.string ⟨#[]⟩, .slice none 0 0], .int .i64 3]) (by simp [results, results146, go_sem, s0, s1, hx45]) rfl ?_
          refine ⟨⟨[.string ⟨#[]⟩, .slice none 0 0], by rw [HZ2.out], by rw [HZ1.out]; exact ⟨_, rfl, none, 0, rfl, Sl.empty _ _ _⟩⟩, ?_⟩
          exact (((HBw.out.trans (HB5.out.mono HBw.out.size)).setCell (by show _ ≤ w.heap.size + 1; omega) _).setCell (by show _ ≤ w.heap.size + 1; omega) _).alloc (by simp; omega) _
      · obtain rfl : k = n := by omega
        have HAll : Hid ((s.dims.take k).map (kAF b) = s.dims.map (kAF b)) := hJ (by rw [List.take_of_length_le (by rw [HND.out]; exact Nat.le_refl _)])
        obtain ⟨z1, z2⟩ := HGood.out HT.out; rw [HR.out] at z1; have HZ1 := hJ z1; have HZ2 := hJ z2; rw [HAll.out] at HO; obtain ⟨av, cv, rfl, hsv⟩ := HO.out.sl
        have hkl : (s.dims.map (kAF b)).length = k := by rw [List.length_map, HND.out]
        rw [hkl] at hsv ⊢
        have HBw := hJ (HW3.out.trans (hB.mono HW3.out.size))
        have HCM := hJ (shape_made rr (s.dims.map (kAF b)) av k cv wr hsv hd6 (fun x hx => by
         obtain ⟨y, hy, rfl⟩ := List.mem_map.1 hx; obtain ⟨i, hi, e⟩ := List.getElem_of_mem hy
         have := HT.out i (by rw [← HND.out]; exact hi)
         rw [List.getD_eq_getElem?_getD, List.getElem?_eq_getElem hi] at this; have h2 := kBV this; rw [← e]
         exact Nat.le_trans h2 (by decide)))
        have hX43w := hJ (HX43.out.below hB hl43); clear hsv z1 z2 hkl
        go_wp2_with fail
        refine HCM.out.mono ?_
        rintro e w5 ⟨⟨_, rfl, hr5⟩, hb5⟩
        obtain ⟨_, rfl, a5, c5, rfl, hs5⟩ := hr5; have HX45 := hJ (hX43w.out.below hb5 hX43w.out.lt); have u0 := HX45.out.cell 0 _ rfl; have u1 := HX45.out.cell 1 _ rfl; have u2 := HX45.out.fz 0; have u3 := HX45.out.fz 1; have HS5 := hJ hs5; clear hs5
        have hll : (s.dims.map (kAF b)).length = (s.dims.map (kAF b)).length := rfl
        generalize hLL : (s.dims.map (kAF b)).length = LL at *
        have HLL := hJ hLL; clear hll hLL; have HX60 := hJ ((HX45.out.set 0 (.string rr)).set 1 (.slice a5 LL c5)); have s0 := HX60.out.cell 0 _ rfl; have s1 := HX60.out.cell 1 _ rfl
        go_wp2_with fail
        refine bodyPost_ret (v := .tuple #[.agg #[.string rr, .slice a5 LL c5], .int .i64 0]) (by simp [results, results146, go_sem, s0, s1]) rfl ?_
        refine ⟨⟨[.string rr, .slice a5 LL c5], by rw [HZ2.out], ?_⟩, ?_⟩
        · rw [HZ1.out]
          refine ⟨_, rfl, a5, c5, by rw [← HLL.out], ?_⟩
          have h1 := HS5.out; rw [← HLL.out] at h1
          refine (h1.frame fun q hq _ => ?_).mono (fun q hq _ => by have := HBw.out.size; omega)
          rw [kAA (by have := HBw.out.size; have := hX43w.out.lt; show w.heap.size + 1 ≠ q; omega), kAA (by have := hX43w.out.lt; show w.heap.size + 1 ≠ q; omega)]
        · exact ((HBw.out.trans (hb5.mono HBw.out.size)).setCell (by show _ ≤ w.heap.size + 1; omega) _).setCell (by show _ ≤ w.heap.size + 1; omega) _
   · have HR : Hid (kCE b s = ⟨s.row, []⟩) := hJ (by rw [HRow.out, if_neg he, if_neg hq])
     have hq2 : kBA b 2 s.row < 0 := by omega
     clear hq he HFnd HRow
     generalize kBA b 2 s.row = q at *
     go_wp2_with fail
     go_loopw [7, 51] (fun v i wr => ∃ (k : Nat) (v0 : Value), k ≤ n ∧ i = .int .i64 k ∧ v0 = v ∧ Hid (∀ i, i < k → kAD (kAF b (s.dims.getD i default)) = true) ∧ Hid (Own RLin 65 (fun q => w3.heap.size ≤ q) wr w3.heap.size v ((s.dims.take k).map (kAF b))) ∧ Below w3.heap.size w3 wr) (fun _ i _ => n - (intOf i).toNat)
     case atStart => exact ⟨0, _, Nat.zero_le _, rfl, rfl, hJ (fun i hi => absurd hi (by omega)), hJ (Own.nil _ _ _ _ _), Below.refl _ _⟩
     case round =>
      obtain ⟨k, v0, hk, rfl, rfl, HT, HO, hB⟩ := hrel
      by_cases hlt : k < n
      · obtain ⟨b1, off, rfl, hbW, _⟩ := HDs.out.form k hlt
        have HBw := hJ (HW3.out.trans (hB.mono HW3.out.size)); obtain ⟨t, hr, ⟨at_, ct, rfl, hts⟩, c0, c1⟩ := (HDs.out.below HBw.out).lin k hlt
        have HK : Hid (k < s.dims.length) := hJ (by rw [HND.out]; exact hlt)
        have HNext : Hid ((s.dims.take (k + 1)).map (kAF b) = (s.dims.take k).map (kAF b) ++ [kAF b (s.dims.getD k default)]) := hJ (by rw [kAU HK.out, List.map_append]; rfl)
        have hkl : ((s.dims.take k).map (kAF b)).length = k := by rw [List.length_map, List.length_take, HND.out]; omega
        have HBk := hJ (HBad.out k hlt)
        have HUp := hJ (fun q => upto HT.out (p := fun j => kAD (kAF b (s.dims.getD j default)) = true) q)
        have HXv := hJ (HD.out.2 _ (kAI HK.out))
        have HC := hJ (fun (W' : World) (hW' : Below wr.heap.size wr W') => kDS (RLin.below hr hW') HXv.out b _ nb cb (HBS.out.below (HBw.out.trans (hW'.mono HBw.out.size))) HG.out (EE.out.below (HBw.out.trans (hW'.mono HBw.out.size))))
        clear hr hts
        generalize s.dims.getD k default = x at *
        generalize (s.dims.take k).map (kAF b) = lk at *
        have hA : Below wr.heap.size wr (wr.alloc (.cells #[.int .i64 x.const, .slice at_ x.terms.length ct] 65)) := (Below.refl _ _).alloc (Nat.le_refl _) _
        have HCx := hJ (HC.out _ hA); have hX43w := HX43.out.below hB hl43
        by_cases hvx : kAD (kAF b x) = true
        · obtain ⟨e1, e2⟩ := kDT hvx
          rw [e1, e2] at HCx; have HUp := hJ (HUp.out hvx); clear e1 e2 hvx
          go_wp2_with fail
          refine HCx.out.mono ?_
          rintro e w5 ⟨⟨_, rfl, hr5⟩, hb5⟩
          obtain ⟨_, rfl, a5, c5, rfl, hs5⟩ := hr5
          have HB5 : Hid (Below wr.heap.size wr w5) := hJ (hA.trans (hb5.mono (by simp)))
          have hsz5 : w3.heap.size ≤ w5.heap.size := by have h1 := HB5.out.size; have h2 := hB.size; omega
          have HRY : Hid (RLin.rd (fun q => w3.heap.size ≤ q ∧ v0.ownBlock ≠ some q) w5 [.int .i64 (kAF b x).const, .slice a5 (kAF b x).terms.length c5] (kAF b x)) := hJ ⟨_, rfl, a5, c5, rfl, hs5.mono (fun q hq _ => by
           have hq : wr.heap.size + 1 ≤ q := by simpa using hq
           refine ⟨by have := hB.size; omega, fun e => ?_⟩
           have := (HO.out.block e).2
           omega)⟩
          go_wp2_with (at_builtin; refine kA8 kBJ rfl _ _ rfl w3.heap.size _ _ rfl (((HO.out.below HB5.out).alloc _).alloc _) _ (kAF b x) [.int .i64 (kAF b x).const, .slice a5 (kAF b x).terms.length c5] rfl (RLin.below HRY.out (((Below.refl _ _).alloc (Nat.le_refl _) _).alloc (by simp) _)) (kA4 65 (by (simp only [kAG, kAE, Array.getElem?_push, Array.size_push]; simp))) (by omega) (by unfold maxLen; omega) (by simp; omega) ?_; intro v9 w9 hown9 hb9 hk9)
          go_roundw
          case rel => exact ⟨k + 1, _, by omega, by go_num, rfl, HUp, hJ (by rw [HNext.out]; exact hown9), (hB.trans (HB5.out.mono hB.size)).trans ((((Below.refl _ _).alloc hsz5 _).alloc (by simp; omega) _).trans hb9)⟩
          case measure => simp [intOf]; omega
        · have hvx : kAD (kAF b x) = false := by simpa using hvx
          obtain ⟨e1, e2⟩ := lim_bad hvx; rw [e1, e2] at HCx; obtain ⟨z1, z2⟩ := HBk.out hvx; have HZ1 := hJ z1; have HZ2 := hJ z2; clear e1 e2 hvx z1 z2
          go_wp2_with fail
          refine HCx.out.mono ?_
          rintro e w5 ⟨⟨_, rfl, hr5⟩, hb5⟩
          obtain ⟨_, rfl, a5, c5, rfl, hs5⟩ := hr5
          have HB5 : Hid (Below wr.heap.size wr w5) := hJ (hA.trans (hb5.mono (by simp)))
          have HX45 := hJ (hX43w.below HB5.out hX43w.lt); have hx45 := HX45.out.lt; have u0 := HX45.out.cell 0 _ rfl; have u1 := HX45.out.cell 1 _ rfl; have u2 := HX45.out.fz 0; have u3 := HX45.out.fz 1; have HX60 := hJ ((HX45.out.set 0 (.string ⟨#[]⟩)).set 1 (.slice none 0 0)); have s0 := HX60.out.cell 0 _ rfl; have s1 := HX60.out.cell 1 _ rfl
          go_wp2_with fail
          refine bodyPost_ret (v := .tuple #[.agg #[.string ⟨#[]⟩, .slice none 0 0], .int .i64 3]) (by simp [results, results146, go_sem, s0, s1, hx45]) rfl ?_
          refine ⟨⟨[.string ⟨#[]⟩, .slice none 0 0], by rw [HZ2.out], by rw [HZ1.out]; exact ⟨_, rfl, none, 0, rfl, Sl.empty _ _ _⟩⟩, ?_⟩
          exact (((HBw.out.trans (HB5.out.mono HBw.out.size)).setCell (by show _ ≤ w.heap.size + 1; omega) _).setCell (by show _ ≤ w.heap.size + 1; omega) _).alloc (by simp; omega) _
      · obtain rfl : k = n := by omega
        have HAll : Hid ((s.dims.take k).map (kAF b) = s.dims.map (kAF b)) := hJ (by rw [List.take_of_length_le (by rw [HND.out]; exact Nat.le_refl _)])
        obtain ⟨z1, z2⟩ := HGood.out HT.out; rw [HR.out] at z1; have HZ1 := hJ z1; have HZ2 := hJ z2; rw [HAll.out] at HO; obtain ⟨av, cv, rfl, hsv⟩ := HO.out.sl
        have hkl : (s.dims.map (kAF b)).length = k := by rw [List.length_map, HND.out]
        rw [hkl] at hsv ⊢
        have HBw := hJ (HW3.out.trans (hB.mono HW3.out.size))
        have HCM := hJ (shape_made s.row (s.dims.map (kAF b)) av k cv wr hsv hd6 (fun x hx => by
         obtain ⟨y, hy, rfl⟩ := List.mem_map.1 hx; obtain ⟨i, hi, e⟩ := List.getElem_of_mem hy
         have := HT.out i (by rw [← HND.out]; exact hi)
         rw [List.getD_eq_getElem?_getD, List.getElem?_eq_getElem hi] at this; have h2 := kBV this; rw [← e]
         exact Nat.le_trans h2 (by decide)))
        have hX43w := hJ (HX43.out.below hB hl43); clear hsv z1 z2 hkl
        go_wp2_with fail
        refine HCM.out.mono ?_
        rintro e w5 ⟨⟨_, rfl, hr5⟩, hb5⟩
        obtain ⟨_, rfl, a5, c5, rfl, hs5⟩ := hr5; have HX45 := hJ (hX43w.out.below hb5 hX43w.out.lt); have u0 := HX45.out.cell 0 _ rfl; have u1 := HX45.out.cell 1 _ rfl; have u2 := HX45.out.fz 0; have u3 := HX45.out.fz 1; have HS5 := hJ hs5; clear hs5
        have hll : (s.dims.map (kAF b)).length = (s.dims.map (kAF b)).length := rfl
        generalize hLL : (s.dims.map (kAF b)).length = LL at *
        have HLL := hJ hLL; clear hll hLL; have HX60 := hJ ((HX45.out.set 0 (.string s.row)).set 1 (.slice a5 LL c5)); have s0 := HX60.out.cell 0 _ rfl; have s1 := HX60.out.cell 1 _ rfl
        go_wp2_with fail
        refine bodyPost_ret (v := .tuple #[.agg #[.string s.row, .slice a5 LL c5], .int .i64 0]) (by simp [results, results146, go_sem, s0, s1]) rfl ?_
        refine ⟨⟨[.string s.row, .slice a5 LL c5], by rw [HZ2.out], ?_⟩, ?_⟩
        · rw [HZ1.out]
          refine ⟨_, rfl, a5, c5, by rw [← HLL.out], ?_⟩
          have h1 := HS5.out; rw [← HLL.out] at h1
          refine (h1.frame fun q hq _ => ?_).mono (fun q hq _ => by have := HBw.out.size; omega)
          rw [kAA (by have := HBw.out.size; have := hX43w.out.lt; show w.heap.size + 1 ≠ q; omega), kAA (by have := hX43w.out.lt; show w.heap.size + 1 ≠ q; omega)]
        · exact ((HBw.out.trans (hb5.mono HBw.out.size)).setCell (by show _ ≤ w.heap.size + 1; omega) _).setCell (by show _ ≤ w.heap.size + 1; omega) _
theorem ref04_Subst {S T : Blk} {x : Lin} {cs : List Value} {w : World} (h : RLin.rd S w cs x) (hv : kAD x = true) (b : List Bnd) (a : Option Addr) (nb cb : Nat) (hbs : Sl RBnd T w a nb cb b) (hg : GoodB b) :
 Calls Tryz.prog 70 #[.agg cs.toArray, .slice a nb cb] w fun e w' => (∃ ds, e = .returned (.tuple #[.agg ds.toArray, .int .i64 (limE (kAF b x))]) ∧ RLin.rd (fun k => w.heap.size ≤ k) w' ds (limL (kAF b x))) ∧ Below w.heap.size w w' := by
 have HCV : Hid (∀ W, Below w.heap.size w W → Calls Tryz.prog 67 #[.agg cs.toArray] W fun e w' => e = .returned (.bool true) ∧ Below W.heap.size W w') :=
  hJ (fun W hW => hv ▸ kB5 (RLin.below h hW) (kGS hv))
 have HZ := hJ (subRaw_sz hg hv); obtain ⟨_, rfl, ax, cx, rfl, hsx⟩ := h; have hvp := kBF hv; have HP := hJ hvp; have HV := hJ hv; have HG := hJ hg; have HSX := hJ hsx; have HBS := hJ hbs; have hmx := hsx.small; have hlen := hvp.2.2.2.2.2; clear hsx hbs hvp hv hg
 generalize hnx : x.terms.length = n at *
 have HNX := hJ hnx; clear hnx; obtain ⟨B0, ya, yb, hW0⟩ := box2 w 65 [.int .i64 x.const, .slice ax n cx] 65 [.int .i64 0, .slice none 0 0]; have xa0 := box0 ya 0 _ rfl; have xa1 := box0 ya 1 _ rfl; have xb0 := box0 yb 0 _ rfl; have xb1 := box0 yb 1 _ rfl
 have bka : Bx _ _ _ _ := ya; have bkb : Bx _ _ _ _ := yb
 clear ya yb; have HB4 := hJ bkb; clear bka bkb
 go_enter func70, ntmps70
 go_wp2_with fail
 refine (HCV.out _ B0.out).mono ?_
 rintro e w1 ⟨rfl, hb⟩
 have y0 := kAC xa0 _ hb; have y1 := kAC xa1 _ hb; have HW := hJ (B0.out.trans (hb.mono B0.out.size)); have HX4 := hJ (HB4.out.below hb HB4.out.lt); have hl4 := HX4.out.lt
 have hl2 : w.heap.size < w1.heap.size := by omega
 clear xa0 xa1 xb0 xb1 hb HB4
 go_wp2_with fail
 go_loopw [7] (fun i wr => ∃ (j : Nat) (v : Value), j ≤ n ∧ i = .int .i64 j ∧ Hid (Bx wr w1.heap.size 65 [.int .i64 (kDE b x.const (x.terms.take j)).const, v]) ∧ Hid (SlV kBP (fun q => w1.heap.size + 1 ≤ q) wr v (kDE b x.const (x.terms.take j)).terms) ∧ Hid (Below w1.heap.size w1 wr)) (fun i _ => n - (intOf i).toNat)
 case atStart => exact ⟨0, _, Nat.zero_le _, rfl, hJ (Bx.fresh _ _ [.int .i64 x.const, .slice none 0 0]), hJ ⟨none, 0, rfl, Sl.empty _ _ _⟩, hJ ((Below.refl _ _).alloc (Nat.le_refl _) _)⟩
 case round =>
  obtain ⟨j, v, hj, rfl, HX, HSV, HB⟩ := hrel; have z1 := kAC y1 _ HB.out; have hgs := HX.out.lt
  have hls : w1.heap.size < wr.heap.size := hgs
  by_cases hlt : j < n
  · obtain ⟨b0, off, rfl, hbW, _⟩ := HSX.out.form j hlt
    have HBw := hJ (HW.out.trans (HB.out.mono HW.out.size)); obtain ⟨c0, c1⟩ := (HSX.out.below HBw.out).coef j hlt
    have HKl : Hid (j < x.terms.length) := hJ (by rw [HNX.out]; exact hlt)
    have HStep := hJ (subRun_take (b := b) (c := x.const) HKl.out)
    have HOK := hJ (valid_take HV.out HG.out j (by rw [HNX.out]; exact hj))
    have HN := hJ (HP.out.2.2.2.1 _ (kAI HKl.out)); have HCb := hJ (HP.out.2.2.1 _ (kAI HKl.out)); have HS1 := hJ (kFK HG.out HN.out)
    have HSel : Hid (sub1 b (x.terms.getD j default).v = if b.any (isB 1 (x.terms.getD j default).v) then bndL b (x.terms.getD j default).v else varL (x.terms.getD j default).v) := hJ rfl
    have HC := hJ (fun (W : World) (hW : Below wr.heap.size wr W) => ref04_bound b a nb cb W (HBS.out.below (HBw.out.trans (hW.mono HBw.out.size))) (x.terms.getD j default).v)
    obtain ⟨av, cv, rfl, hsv⟩ := HSV.out; have HSv := hJ hsv; clear hsv HSV
    generalize x.terms.getD j default = t at *
    generalize hacc : kDE b x.const (x.terms.take j) = acc at *
    generalize hL : acc.terms.length = L at *
    have HL := hJ hL; clear hacc hL; have q0 := HX.out.cell 0 _ rfl; have q1 := HX.out.cell 1 _ rfl
    go_wp2_with fail
    have hA1 : Below wr.heap.size wr (wr.alloc (.cells #[.string t.v, .int .i64 t.c] 62)) := (Below.refl _ _).alloc (Nat.le_refl _) _
    refine (HC.out _ hA1).mono ?_
    rintro e w2 ⟨⟨ds, rfl, hr2⟩, hb2⟩
    obtain ⟨_, rfl, ab, cb2, rfl, hsb⟩ := hr2
    have HX8 := hJ ((Bx.fresh wr 62 [.string t.v, .int .i64 t.c]).below hb2 (by simp))
    have hB2 : Below wr.heap.size wr w2 := hA1.trans (hb2.mono hA1.size)
    have HX2 := hJ (HX.out.below hB2 hgs); have HSv2 := hJ (HSv.out.below hB2); have HSb := hJ hsb.all; have HBB2 := hJ hB2
    have h8 : wr.heap.size < w2.heap.size := by have := hb2.size; simp at this; omega
    clear hA1 hb2 hB2 hsb c0 c1 q0 q1 HSv HX
    generalize b.any (isB 1 t.v) = ok at *
    cases ok with
    | true =>
      have HSel2 : Hid (bndL b t.v = sub1 b t.v) := hJ (by rw [HSel.out]; rfl)
      rw [HSel2.out] at HSb; rw [HSel2.out]; have HX6 := hJ (HX2.out.alloc (.cells #[.int .i64 (sub1 b t.v).const, .slice ab (sub1 b t.v).terms.length cb2] 65)); have HX8 := hJ (HX8.out.alloc (.cells #[.int .i64 (sub1 b t.v).const, .slice ab (sub1 b t.v).terms.length cb2] 65)); have HX9 := hJ (Bx.fresh w2 65 [.int .i64 (sub1 b t.v).const, .slice ab (sub1 b t.v).terms.length cb2]); have HS9 := hJ (HSb.out.below ((Below.refl _ _).alloc (Nat.le_refl _) (.cells #[.int .i64 (sub1 b t.v).const, .slice ab (sub1 b t.v).terms.length cb2] 65))); have HSv9 := hJ (HSv2.out.below ((Below.refl _ _).alloc (Nat.le_refl _) (.cells #[.int .i64 (sub1 b t.v).const, .slice ab (sub1 b t.v).terms.length cb2] 65)))
      have HB9 : Hid (Below w1.heap.size w1 (w2.alloc (.cells #[.int .i64 (sub1 b t.v).const, .slice ab (sub1 b t.v).terms.length cb2] 65))) := hJ ((HB.out.trans (HBB2.out.mono HB.out.size)).alloc (by omega) _)
      go_wp2_with fail
      have h9 : w2.heap.size < (w2.alloc (.cells #[.int .i64 (sub1 b t.v).const, .slice ab (sub1 b t.v).terms.length cb2] 65)).heap.size := by simp
      generalize (w2.alloc (.cells #[.int .i64 (sub1 b t.v).const, .slice ab (sub1 b t.v).terms.length cb2] 65)) = X9 at *
      generalize ab = a9 at *
      generalize cb2 = c9 at *
      have g60 := HX6.out.cell 0 _ rfl; have g61 := HX6.out.cell 1 _ rfl; have g80 := HX8.out.cell 0 _ rfl; have g81 := HX8.out.cell 1 _ rfl; have g90 := HX9.out.cell 0 _ rfl; have g91 := HX9.out.cell 1 _ rfl; have HCV2 := hJ (kB5 (w := X9) (x := sub1 b t.v) (cs := [.int .i64 (sub1 b t.v).const, .slice a9 (sub1 b t.v).terms.length c9]) ⟨_, rfl, a9, c9, rfl, HS9.out⟩ (kGS HS1.out)); rw [HS1.out] at HCV2
      go_wp2_with fail
      refine (HCV2.out).mono ?_
      rintro e w3 ⟨rfl, hb3⟩
      have HX63 := hJ (HX6.out.below hb3 HX6.out.lt); have HX83 := hJ (HX8.out.below hb3 HX8.out.lt); have HX93 := hJ (HX9.out.below hb3 HX9.out.lt); have HS93 := hJ (HS9.out.below hb3); have HSv3 := hJ (HSv9.out.below hb3); have HB3 := hJ (HB9.out.trans (hb3.mono HB9.out.size)); have g60 := HX63.out.cell 0 _ rfl; have g61 := HX63.out.cell 1 _ rfl; have g81 := HX83.out.cell 1 _ rfl; have g90 := HX93.out.cell 0 _ rfl; have g91 := HX93.out.cell 1 _ rfl
      have hs3 : wr.heap.size < w3.heap.size := by have := hb3.size; omega
      have HCT := hJ (ref04_Times (w := w3) (x := acc) (y := sub1 b t.v) (cs := [.int .i64 acc.const, .slice av L cv]) (ds := [.int .i64 (sub1 b t.v).const, .slice a9 (sub1 b t.v).terms.length c9]) ⟨_, rfl, av, cv, by rw [HL.out], by rw [HL.out]; exact HSv3.out⟩ ⟨_, rfl, a9, c9, rfl, HS93.out⟩ (by omega) HOK.out HS1.out t.c HCb.out)
      clear hb3
      go_wp2_with fail
      refine HCT.out.mono ?_
      rintro e w4 ⟨⟨ds4, rfl, hr4⟩, hb4⟩
      obtain ⟨_, rfl, a4, c4, rfl, hs4⟩ := hr4
      have HX64 := hJ (HX63.out.below hb4 (by omega))
      have k0 := HX64.out.cell 0 _ rfl; have k1 := HX64.out.cell 1 _ rfl; have k2 := HX64.out.fz 0; have k3 := HX64.out.fz 1
      have HVN : Hid (SlV kBP (fun q => w1.heap.size + 1 ≤ q) ((w4.setCell ⟨w1.heap.size, 0, none⟩ (.int .i64 (kB8 acc (sub1 b t.v) t.c).const)).setCell ⟨w1.heap.size, 1, none⟩ (.slice a4 (kB8 acc (sub1 b t.v) t.c).terms.length c4)) (.slice a4 (kB8 acc (sub1 b t.v) t.c).terms.length c4) (kB8 acc (sub1 b t.v) t.c).terms) := hJ (by
       refine ⟨a4, c4, rfl, (hs4.frame fun q hq _ => ?_).mono (fun q hq _ => by omega)⟩
       rw [kAA (by show w1.heap.size ≠ q; omega), kAA (by show w1.heap.size ≠ q; omega)])
      go_wp2_with fail
      go_roundw
      case rel => exact ⟨j + 1, _, by omega, by go_num, by rw [HStep.out]; exact hJ ((HX64.out.set 0 _).set 1 _), by rw [HStep.out]; exact HVN, hJ (((HB3.out.trans (hb4.mono HB3.out.size)).setCell (Nat.le_refl _) _).setCell (Nat.le_refl _) _)⟩
      case measure => simp [intOf]; omega
    | false =>
      have HSel2 : Hid (sub1 b t.v = varL t.v) := hJ (by rw [HSel.out]; rfl)
      generalize bndL b t.v = nb2 at *
      have HA2 := hJ ((Below.refl w2.heap.size w2).alloc (Nat.le_refl _) (.cells #[.int .i64 nb2.const, .slice ab nb2.terms.length cb2] 65)); have HX8a := hJ (HX8.out.alloc (.cells #[.int .i64 nb2.const, .slice ab nb2.terms.length cb2] 65)); have g80 := HX8a.out.cell 0 _ rfl; have HCVar := ref04_Var t.v (w2.alloc (.cells #[.int .i64 nb2.const, .slice ab nb2.terms.length cb2] 65)); rw [← HSel2.out] at HCVar; have HCVar := hJ HCVar
      go_wp2_with fail
      refine HCVar.out.mono ?_
      rintro e w5 ⟨⟨_, rfl, hr5⟩, hb5⟩
      obtain ⟨_, rfl, a9, c9, rfl, hs9⟩ := hr5
      have HX90 := hJ ((Bx.fresh w2 65 [.int .i64 nb2.const, .slice ab nb2.terms.length cb2]).below hb5 (by simp))
      have u0 := HX90.out.cell 0 _ rfl; have u1 := HX90.out.cell 1 _ rfl; have u2 := HX90.out.fz 0; have u3 := HX90.out.fz 1
      have h85 : wr.heap.size < w5.heap.size := by have := hb5.size; simp at this; omega
      have h95 : w2.heap.size < w5.heap.size := HX90.out.lt
      have HB5 : Hid (Below w2.heap.size w2 w5) := hJ (HA2.out.trans (hb5.mono (by simp)))
      have HX9 : Hid (Bx ((w5.setCell ⟨w2.heap.size, 0, none⟩ (.int .i64 (sub1 b t.v).const)).setCell ⟨w2.heap.size, 1, none⟩ (.slice a9 (sub1 b t.v).terms.length c9)) w2.heap.size 65 [.int .i64 (sub1 b t.v).const, .slice a9 (sub1 b t.v).terms.length c9]) := hJ ((HX90.out.set 0 _).set 1 _)
      have HBs : Hid (Below w2.heap.size w2 ((w5.setCell ⟨w2.heap.size, 0, none⟩ (.int .i64 (sub1 b t.v).const)).setCell ⟨w2.heap.size, 1, none⟩ (.slice a9 (sub1 b t.v).terms.length c9))) := hJ ((HB5.out.setCell (Nat.le_refl _) _).setCell (Nat.le_refl _) _)
      have HX6 := hJ (HX2.out.below HBs.out (by omega))
      have HX8 := hJ (HX8.out.below HBs.out h8); have HSv9 := hJ (HSv2.out.below HBs.out)
      have HS9 : Hid (Sl kBP All ((w5.setCell ⟨w2.heap.size, 0, none⟩ (.int .i64 (sub1 b t.v).const)).setCell ⟨w2.heap.size, 1, none⟩ (.slice a9 (sub1 b t.v).terms.length c9)) a9 (sub1 b t.v).terms.length c9 (sub1 b t.v).terms) := hJ ((hs9.frame fun q hq _ => by
       have hq : w2.heap.size + 1 ≤ q := by simpa using hq
       rw [kAA (by show w2.heap.size ≠ q; omega), kAA (by show w2.heap.size ≠ q; omega)]).all)
      have HB9 : Hid (Below w1.heap.size w1 ((w5.setCell ⟨w2.heap.size, 0, none⟩ (.int .i64 (sub1 b t.v).const)).setCell ⟨w2.heap.size, 1, none⟩ (.slice a9 (sub1 b t.v).terms.length c9))) := hJ (HB.out.trans ((HBB2.out.trans (HBs.out.mono (by omega))).mono HB.out.size))
      have h9 : w2.heap.size < ((w5.setCell ⟨w2.heap.size, 0, none⟩ (.int .i64 (sub1 b t.v).const)).setCell ⟨w2.heap.size, 1, none⟩ (.slice a9 (sub1 b t.v).terms.length c9)).heap.size := HX9.out.lt
      have v0 := HX9.out.cell 0 _ rfl; have v1 := HX9.out.cell 1 _ rfl; clear hs9 hb5
      go_wp2_with fail
      clear u0 u1 u2 u3 v0 v1 g80 HX8a
      generalize ((w5.setCell ⟨w2.heap.size, 0, none⟩ (.int .i64 (sub1 b t.v).const)).setCell ⟨w2.heap.size, 1, none⟩ (.slice a9 (sub1 b t.v).terms.length c9)) = X9 at *
      have g60 := HX6.out.cell 0 _ rfl; have g61 := HX6.out.cell 1 _ rfl; have g80 := HX8.out.cell 0 _ rfl; have g81 := HX8.out.cell 1 _ rfl; have g90 := HX9.out.cell 0 _ rfl; have g91 := HX9.out.cell 1 _ rfl; have HCV2 := hJ (kB5 (w := X9) (x := sub1 b t.v) (cs := [.int .i64 (sub1 b t.v).const, .slice a9 (sub1 b t.v).terms.length c9]) ⟨_, rfl, a9, c9, rfl, HS9.out⟩ (kGS HS1.out)); rw [HS1.out] at HCV2
      go_wp2_with fail
      refine (HCV2.out).mono ?_
      rintro e w3 ⟨rfl, hb3⟩
      have HX63 := hJ (HX6.out.below hb3 HX6.out.lt); have HX83 := hJ (HX8.out.below hb3 HX8.out.lt); have HX93 := hJ (HX9.out.below hb3 HX9.out.lt); have HS93 := hJ (HS9.out.below hb3); have HSv3 := hJ (HSv9.out.below hb3); have HB3 := hJ (HB9.out.trans (hb3.mono HB9.out.size)); have g60 := HX63.out.cell 0 _ rfl; have g61 := HX63.out.cell 1 _ rfl; have g81 := HX83.out.cell 1 _ rfl; have g90 := HX93.out.cell 0 _ rfl; have g91 := HX93.out.cell 1 _ rfl
      have hs3 : wr.heap.size < w3.heap.size := by have := hb3.size; omega
      have HCT := hJ (ref04_Times (w := w3) (x := acc) (y := sub1 b t.v) (cs := [.int .i64 acc.const, .slice av L cv]) (ds := [.int .i64 (sub1 b t.v).const, .slice a9 (sub1 b t.v).terms.length c9]) ⟨_, rfl, av, cv, by rw [HL.out], by rw [HL.out]; exact HSv3.out⟩ ⟨_, rfl, a9, c9, rfl, HS93.out⟩ (by omega) HOK.out HS1.out t.c HCb.out)
      clear hb3
      go_wp2_with fail
      refine HCT.out.mono ?_
      rintro e w4 ⟨⟨ds4, rfl, hr4⟩, hb4⟩
      obtain ⟨_, rfl, a4, c4, rfl, hs4⟩ := hr4
      have HX64 := hJ (HX63.out.below hb4 (by omega))
      have k0 := HX64.out.cell 0 _ rfl; have k1 := HX64.out.cell 1 _ rfl; have k2 := HX64.out.fz 0; have k3 := HX64.out.fz 1
      have HVN : Hid (SlV kBP (fun q => w1.heap.size + 1 ≤ q) ((w4.setCell ⟨w1.heap.size, 0, none⟩ (.int .i64 (kB8 acc (sub1 b t.v) t.c).const)).setCell ⟨w1.heap.size, 1, none⟩ (.slice a4 (kB8 acc (sub1 b t.v) t.c).terms.length c4)) (.slice a4 (kB8 acc (sub1 b t.v) t.c).terms.length c4) (kB8 acc (sub1 b t.v) t.c).terms) := hJ (by
       refine ⟨a4, c4, rfl, (hs4.frame fun q hq _ => ?_).mono (fun q hq _ => by omega)⟩
       rw [kAA (by show w1.heap.size ≠ q; omega), kAA (by show w1.heap.size ≠ q; omega)])
      go_wp2_with fail
      go_roundw
      case rel => exact ⟨j + 1, _, by omega, by go_num, by rw [HStep.out]; exact hJ ((HX64.out.set 0 _).set 1 _), by rw [HStep.out]; exact HVN, hJ (((HB3.out.trans (hb4.mono HB3.out.size)).setCell (Nat.le_refl _) _).setCell (Nat.le_refl _) _)⟩
      case measure => simp [intOf]; omega
  · obtain rfl : j = n := by omega
    have HEnd : Hid (kDE b x.const (x.terms.take j) = kAF b x) := hJ (by rw [List.take_of_length_le (by rw [HNX.out]; exact Nat.le_refl _)]; rfl)
    rw [HEnd.out] at HX HSV; obtain ⟨av, cv, rfl, hsv⟩ := HSV.out; have HCL := hJ (ref04_limited (w := wr) (x := kAF b x) (cs := [.int .i64 (kAF b x).const, .slice av (kAF b x).terms.length cv]) ⟨_, rfl, av, cv, rfl, hsv⟩ HZ.out); have q0 := HX.out.cell 0 _ rfl; have q1 := HX.out.cell 1 _ rfl; have HX40 := hJ (HX4.out.below HB.out hl4); clear hsv HSV
    go_wp2_with fail
    refine HCL.out.mono ?_
    rintro e w5 ⟨⟨_, rfl, hr5⟩, hb5⟩
    obtain ⟨_, rfl, a5, c5, rfl, hs5⟩ := hr5
    have HX5 := hJ (HX40.out.below hb5 (by omega))
    have u0 := HX5.out.cell 0 _ rfl; have u1 := HX5.out.cell 1 _ rfl; have u2 := HX5.out.fz 0; have u3 := HX5.out.fz 1; have HX60 := hJ ((HX5.out.set 0 (.int .i64 (limL (kAF b x)).const)).set 1 (.slice a5 (limL (kAF b x)).terms.length c5)); have s0 := HX60.out.cell 0 _ rfl; have s1 := HX60.out.cell 1 _ rfl; have HS5 := hJ hs5; clear hs5
    go_wp2_with fail
    refine bodyPost_ret (v := .tuple #[.agg #[.int .i64 (limL (kAF b x)).const, .slice a5 (limL (kAF b x)).terms.length c5], .int .i64 (limE (kAF b x))]) (by simp [results, results70, go_sem, s0, s1]) rfl ?_
    refine ⟨⟨[.int .i64 (limL (kAF b x)).const, .slice a5 (limL (kAF b x)).terms.length c5], rfl, ⟨_, rfl, a5, c5, rfl, ?_⟩⟩, ?_⟩
    · refine (HS5.out.frame fun q hq _ => ?_).mono (fun q hq _ => by have := HW.out.size; omega)
      rw [kAA (by show w.heap.size + 1 ≠ q; omega), kAA (by show w.heap.size + 1 ≠ q; omega)]
    · exact HW.out.trans ((((HB.out.trans (hb5.mono HB.out.size)).mono HW.out.size).setCell (by show _ ≤ w.heap.size + 1; omega) _).setCell (by show _ ≤ w.heap.size + 1; omega) _)
end Go.Proofs.YtjongcdlginjlaaGreatDoor
