/- The claim's texts, part 9: contracts of the functions that the statement reaches, and what they say of the data. -/
import Derived.Test.YtjongcdlginjlaaGreatDoorPm8
set_option maxRecDepth 100000
set_option maxHeartbeats 8000000
set_option linter.all false
namespace Go.Proofs.YtjongcdlginjlaaGreatDoor
open Go.Proofs.Tryz
open Go.RowKit
def slim (x : Ent) : Prop := x.scheme.params.length ≤ 1000000
theorem ref57_Equal {S T : Blk} {x y : Ifc} {a a2 : Option Addr} {c c2 : Nat} {w : World} (hs : Sl REnt S w a x.entries.length c x.entries) (hs2 : Sl REnt T w a2 y.entries.length c2 y.entries) (hpx : ∀ e ∈ x.entries, slim e) (hpy : ∀ e ∈ y.entries, slim e) :
 Calls Tryz.prog 11 #[.agg #[.string x.module_, .slice a x.entries.length c], .agg #[.string y.module_, .slice a2 y.entries.length c2]] w fun e w' => e = .returned (.bool (kGW x y)) ∧ Below w.heap.size w w' := by
 have hm := hs.small; have hm2 := hs2.small
 have HN : Hid (kGW x y = ((x.module_.toList == y.module_.toList) && kA2 kFR x.entries y.entries)) := hJ rfl
 have HPX := hJ hpx; have HPY := hJ hpy; have HS0 := hJ hs; have HS20 := hJ hs2; clear hpx hpy hs hs2
 generalize hl1 : x.entries.length = n at *
 generalize hl2 : y.entries.length = n2 at *
 have HL1 := hJ hl1; have HL2 := hJ hl2; clear hl1 hl2; obtain ⟨B0, ya, yb, hW0⟩ := box2 w 24 [.string x.module_, .slice a n c] 24 [.string y.module_, .slice a2 n2 c2]; have xa0 := box0 ya 0 _ rfl; have xa1 := box0 ya 1 _ rfl; have xb0 := box0 yb 0 _ rfl; have xb1 := box0 yb 1 _ rfl; clear ya yb; have HS := hJ (HS0.out.below B0.out); have HS2 := hJ (HS20.out.below B0.out); clear HS0 HS20
 by_cases hc : (x.module_.toList == y.module_.toList) = true
 case neg =>
  have hc : (x.module_.toList == y.module_.toList) = false := by simpa using hc
  have hc2 := neqB' hc
  have HF : Hid (kGW x y = false) := hJ (by rw [HN.out, hc]; rfl)
  go_enter func11, ntmps11
  go_wp2_with fail
  go_ret
  exact ⟨by rw [HF.out]; rfl, B0.out⟩
 have HN : Hid (kGW x y = kA2 kFR x.entries y.entries) := hJ (by rw [HN.out, hc]; rfl)
 have hc2 := neqB hc
 by_cases hd : n = n2
 case neg =>
  have q1 : ((n : Int) != (n2 : Int)) = true := bne_iff_ne.2 (by omega)
  have HF : Hid (kGW x y = false) := hJ (by rw [HN.out, eqList_len (by rw [HL1.out, HL2.out]; exact hd)])
  go_enter func11, ntmps11
  go_wp2_with fail
  go_ret
  exact ⟨by rw [HF.out]; rfl, B0.out⟩
 subst hd
 have q1 : ((n : Int) != (n : Int)) = false := by simp
 go_enter func11, ntmps11
 go_wp2_with fail
 generalize ((w.alloc (.cells #[.string x.module_, .slice a n c] 24)).alloc (.cells #[.string y.module_, .slice a2 n c2] 24)) = W at *
 clear hc hc2 q1
 go_loopw [5] (fun i wr => ∃ k : Nat, k ≤ n ∧ i = .int .i64 k ∧ Hid (∀ j, j < k → kFR (x.entries.getD j default) (y.entries.getD j default) = true) ∧ Below W.heap.size W wr) (fun i _ => n - (intOf i).toNat)
 case atStart => exact ⟨0, Nat.zero_le _, rfl, fun j hj => absurd hj (by omega), Below.refl _ _⟩
 case round =>
  obtain ⟨k, hk, rfl, HT, hB⟩ := hrel; have g1 := kAC xa1 _ hB; have k1 := kAC xb1 _ hB
  by_cases hlt : k < n
  · obtain ⟨b, off, rfl, hbW, _⟩ := HS.out.form k hlt
    obtain ⟨b2, off2, rfl, hbW2, _⟩ := HS2.out.form k hlt; obtain ⟨pp, tt, qq, hr, hd, c0, c1, c2, c3, c4, c5⟩ := (HS.out.below hB).ent k hlt; obtain ⟨pp2, tt2, qq2, hr2, hd2, d0, d1, d2, d3, d4, d5⟩ := (HS2.out.below hB).ent k hlt; obtain ⟨_, e1, hr⟩ := hr; obtain ⟨_, e2, hr2⟩ := hr2
    cases e1
    cases e2
    have hs1 := HPX.out _ (kAI (l := x.entries) (k := k) (by rw [HL1.out]; exact hlt))
    have hs2 := HPY.out _ (kAI (l := y.entries) (k := k) (by rw [HL2.out]; exact hlt))
    have HC := hJ (fun t9 : Later wr => kD9 (RSch.below hr t9.b) (RSch.below hr2 t9.b) hs1 hs2)
    have g1 := Later.cell g1; have k1 := Later.cell k1; have c0 := Later.cell c0; have c1 := Later.cell c1; have c2 := Later.cell c2; have c3 := Later.cell c3; have c4 := Later.cell c4; have c5 := Later.cell c5; have d0 := Later.cell d0; have d1 := Later.cell d1; have d2 := Later.cell d2; have d3 := Later.cell d3; have d4 := Later.cell d4; have d5 := Later.cell d5
    have HBad := hJ (fun q => eqList_bad (p := kFR) (l := x.entries) (l2 := y.entries) (k := k) (by rw [HL1.out]; exact hlt) q)
    have HGo := hJ (fun q => upto HT.out (p := fun j => kFR (x.entries.getD j default) (y.entries.getD j default) = true) q)
    clear hr hr2 hd hd2 hs1 hs2
    generalize x.entries.getD k default = u at *
    generalize y.entries.getD k default = u2 at *
    have HE : Hid (kFR u u2 = ((u.name.toList == u2.name.toList) && kFF u.scheme u2.scheme)) := hJ rfl
    by_cases hn : (u.name.toList == u2.name.toList) = true
    · have hn2 := neqB hn
      rw [hn, Bool.true_and] at HE
      generalize kFF u.scheme u2.scheme = q at *
      cases q with
      | true =>
        replace HGo := hJ (HGo.out HE.out)
        go_wp2_with fail
        refine kAB (by kernel_rfl) (by kernel_rfl) ?_
        repeat (go_big_quiet_step (first | fail | exact Later.call (HC.out _)))
        refine wpQuiet_nil ?_
        rintro _ ⟨t9, rfl⟩
        go_wp2_with fail
        go_roundw
        case rel => exact ⟨k + 1, by omega, by go_num, HGo, hB.trans (t9.b.mono hB.size)⟩
        case measure => simp [intOf]; omega
      | false =>
        have HF : Hid (kGW x y = false) := hJ (by rw [HN.out, HBad.out HE.out])
        go_wp2_with fail
        refine kAB (by kernel_rfl) (by kernel_rfl) ?_
        repeat (go_big_quiet_step (first | fail | exact Later.call (HC.out _)))
        refine wpQuiet_nil ?_
        rintro _ ⟨t9, rfl⟩
        go_wp2_with fail
        go_ret
        exact ⟨by rw [HF.out]; rfl, B0.out.trans ((hB.trans (t9.b.mono hB.size)).mono B0.out.size)⟩
    · have hn : (u.name.toList == u2.name.toList) = false := by simpa using hn
      have hn2 := neqB' hn; rw [hn, Bool.false_and] at HE
      have HF : Hid (kGW x y = false) := hJ (by rw [HN.out, HBad.out HE.out])
      go_wp2_with fail
      refine kAB (by kernel_rfl) (by kernel_rfl) ?_
      repeat (go_big_quiet_step (first | fail | exact Later.call (HC.out _)))
      refine wpQuiet_nil ?_
      rintro _ ⟨t9, rfl⟩
      go_wp2_with fail
      go_ret
      exact ⟨by rw [HF.out]; rfl, B0.out.trans ((hB.trans (t9.b.mono hB.size)).mono B0.out.size)⟩
  · have HF : Hid (kGW x y = true) := hJ (by rw [HN.out]; exact kGD (by rw [HL1.out, HL2.out]) (fun j hj => HT.out j (by rw [HL1.out] at hj; omega)))
    go_wp2_with fail
    go_ret
    exact ⟨by rw [HF.out]; rfl, B0.out.trans (hB.mono B0.out.size)⟩
theorem kDH {α : Type} {p : α → Bool} {l : List α} (h : (!l.any (fun x => !p x)) = true) : ∀ x ∈ l, p x = true := by
 intro x hx
 cases hp : p x with
 | true => rfl
 | false =>
   have : l.any (fun x => !p x) = true := List.any_eq_true.2 ⟨x, hx, by rw [hp]; rfl⟩
   rw [this] at h; cases h
theorem few_lin {x : Lin} (h : kEE x = true) : szL x := by
 unfold kEE at h
 rw [Bool.and_eq_true] at h
 intro t ht
 have := kDH h.1 t ht
 unfold fewC at this
 have := of_decide_eq_true this
 omega
theorem few_shp {s : Shp} (h : kDV s = true) : szH s ∧ s.dims.length ≤ 8 := by
 unfold kDV at h
 rw [Bool.and_eq_true, Bool.and_eq_true, decide_eq_true_eq, decide_eq_true_eq] at h
 exact ⟨⟨by omega, fun x hx => few_lin (kDH h.1 x hx)⟩, h.2.1⟩
theorem few_typ {t : Typ} (h : kED t = true) : szT t := by
 unfold kED at h
 rw [Bool.and_eq_true, decide_eq_true_eq] at h
 exact ⟨by omega, (few_shp h.2).1⟩
theorem few_sch {s : Sch} (h : kEY s = true) (hw : ∀ y ∈ s.wh, szL y) : szS s ∧ s.params.length ≤ 13 ∧ (kAJ s = true → s.wh.length ≤ 8) := by
 unfold kEY at h
 rw [Bool.and_eq_true, Bool.and_eq_true, Bool.and_eq_true, Bool.or_eq_true, decide_eq_true_eq, decide_eq_true_eq, beq_iff_eq] at h; obtain ⟨h1, h2, h3, h4⟩ := h; have ha := kDH h1
 refine ⟨⟨fun t ht => few_typ (ha t ?_), few_typ (ha _ ?_), hw⟩, h3, fun hv => ?_⟩
 · unfold allT; exact List.mem_append_left _ ht
 · unfold allT; exact List.mem_append_right _ (List.mem_singleton.2 rfl)
 · have := (kAT hv).2.1
   omega
theorem few_ent {e : Ent} (h : fewE e = true) (hw : ∀ y ∈ e.scheme.wh, szL y) : szS e.scheme ∧ e.scheme.params.length ≤ 13 ∧ (kAJ e.scheme = true → e.scheme.wh.length ≤ 8) ∧ e.name.size ≤ 40 := by
 unfold fewE at h
 rw [Bool.and_eq_true, decide_eq_true_eq] at h; obtain ⟨h1, h2, h3⟩ := few_sch h.1 hw
 exact ⟨h1, h2, h3, h.2⟩
theorem few_ifc {i : Ifc} (h : fewIfc i = true) : (∀ e ∈ i.entries, fewE e = true) ∧ i.entries.length ≤ 6 ∧ i.module_.size ≤ 40 := by
 unfold fewIfc at h
 rw [Bool.and_eq_true, Bool.and_eq_true, decide_eq_true_eq, decide_eq_true_eq] at h
 exact ⟨kDH h.1, h.2.1, h.2.2⟩
theorem can_few {s : Sch} (hp : s.params.length ≤ 13) (hl : kAJ s = true → s.wh.length ≤ 8) : szS (can s) ∧ (can s).params.length ≤ 13 ∧ (can s).wh.length ≤ 8 := by
 cases ho : kEW s with
 | true =>
   have hv : kAJ s = true := by
    unfold kEW kBN at ho
    rw [Bool.and_eq_true] at ho
    exact ho.1
   have hc : can s = canR s := by unfold can; rw [if_pos ho]
   have hv2 : kAJ (can s) = true := by rw [hc]; exact can_valid ho
   refine ⟨sch_sz hv2, ?_, ?_⟩
   · rw [hc]; unfold canR; simpa using hp
   · rw [hc]; unfold canR
     refine Nat.le_trans (tidy_len _) ?_
     rw [List.length_map]; exact hl hv
 | false =>
   have hc : can s = kCQ := by unfold can; rw [if_neg (by rw [ho]; decide)]
   rw [hc]
   exact ⟨⟨fun t ht => absurd ht (List.not_mem_nil), ⟨(by decide : (0 : Nat) ≤ 10000), (by decide : (0 : Nat) ≤ 10000), fun x hx => absurd hx (List.not_mem_nil)⟩, fun x hx => absurd hx (List.not_mem_nil)⟩, (by decide : (0 : Nat) ≤ 13), (by decide : (0 : Nat) ≤ 8)⟩
theorem fine_of {e : Ent} (h : szS e.scheme ∧ e.scheme.params.length ≤ 13 ∧ (kAJ e.scheme = true → e.scheme.wh.length ≤ 8) ∧ e.name.size ≤ 40) : fine e := ⟨h.1, by omega, fun hv => by have := h.2.2.1 hv; omega⟩
theorem Own.fit {α : Type} {R : Rep α} {E : TypeId} {S : Blk} {w : World} {base : Nat} {a : Option Addr} {n c : Nat} {l : List α} (h : Own R E S w base (.slice a n c) l) : Fit w a := fun ad e => by
 subst e; obtain ⟨css, _, hrow, _⟩ := h.row; obtain ⟨a2, c2, hv, _, _, _, hg⟩ := kCA hrow; rw [Value.slice.injEq] at hv; obtain ⟨rfl, -, rfl⟩ := hv; obtain ⟨g, e, _, hg2⟩ := hg ad rfl
 exact ⟨g, 0, e, hg2⟩
theorem Own.ready {E : TypeId} {L B : Nat} {w : World} {v : Value} {l : List Ent} (h : Own REnt E (fun k => k < L) w B v l) : ∃ a c, v = .slice a l.length c ∧ Sl REnt (fun k => (k < L ∨ B ≤ k) ∧ k < w.heap.size) w a l.length c l ∧ Fit w a := by
 obtain ⟨a, c, rfl, hs, hat⟩ := h.slAt
 exact ⟨a, c, rfl, hs.mono (fun k hk hlt => ⟨hk.elim .inl (fun q => .inr (hat k q).1), hlt⟩), h.fit⟩
theorem put2 {S : Blk} {W0 w1 : World} {g B : Nat} {T : TypeId} {z0 z1 : Value} (v0 v1 : Value) {a : Option Addr} {n c : Nat} {l : List Ent} (hb : Bx W0 g T [z0, z1]) (hr : Sl REnt S W0 a n c l) (hS : ∀ k, S k → k < W0.heap.size → k ≠ g) (hB : Below B w1 W0) (hg : B ≤ g) :
 Hid (Bx ((W0.setCell ⟨g, 0, none⟩ v0).setCell ⟨g, 1, none⟩ v1) g T [v0, v1]) ∧ Hid (Sl REnt All ((W0.setCell ⟨g, 0, none⟩ v0).setCell ⟨g, 1, none⟩ v1) a n c l) ∧ Hid (Below B w1 ((W0.setCell ⟨g, 0, none⟩ v0).setCell ⟨g, 1, none⟩ v1)) :=
 ⟨hJ ((hb.set 0 v0).set 1 v1), hJ ((hr.frame (fun k hk hlt => (kAA (fun e => hS k hk hlt e.symm)).trans (kAA (fun e => hS k hk hlt e.symm)))).all), hJ ((hB.setCell hg _).setCell hg _)⟩
theorem says_few {mod : Str} {l : List Ent} {A : Ifc} {e : Int} (h : Says mod l A e) (hm : mod.size ≤ 40) (hl : l.length ≤ 6) (hf : ∀ e ∈ l, szS e.scheme ∧ e.scheme.params.length ≤ 13 ∧ (kAJ e.scheme = true → e.scheme.wh.length ≤ 8) ∧ e.name.size ≤ 40) :
 A.entries.length ≤ 6 ∧ A.module_.size ≤ 40 ∧ ∀ e ∈ A.entries, szS e.scheme ∧ e.scheme.params.length ≤ 13 ∧ e.name.size ≤ 40 := by
 rcases h with ⟨_, rfl, _⟩ | ⟨_, _, rfl, _⟩ | ⟨_, _, _, m, hp, _, rfl⟩
 · exact ⟨(by decide : (0 : Nat) ≤ 6), (by decide : (0 : Nat) ≤ 40), fun e he => absurd he (List.not_mem_nil)⟩
 · exact ⟨(by decide : (0 : Nat) ≤ 6), (by decide : (0 : Nat) ≤ 40), fun e he => absurd he (List.not_mem_nil)⟩
 · refine ⟨?_, hm, fun e he => ?_⟩
   · show (m.map canE).length ≤ 6
     rw [List.length_map, hp.length_eq]; exact hl
   · obtain ⟨e0, he0, rfl⟩ := List.mem_map.1 he
     have h0 := hf e0 (hp.mem_iff.1 he0); obtain ⟨q1, q2, _⟩ := can_few h0.2.1 h0.2.2.1
     exact ⟨q1, q2, h0.2.2.2⟩
def itoaS (n : Int) : Str := ⟨(Lib.itoa n).toArray⟩
def cutS (s : Str) : Str := ⟨(Lib.trimSuffix s.data.toList [49]).toArray⟩
def oneB (n : Int) (s : Str) : Bool := !s.toList.isEmpty && (n == 1 || n == -1)
def digS (n : Int) (s : Str) : Str := if oneB n s then cutS (itoaS n) else itoaS n
def plusB (out : Str) (n : Int) : Bool := decide (0 ≤ n) && !out.toList.isEmpty
def plusS (out : Str) (n : Int) : Str := if plusB out n then out ++ ⟨#[43]⟩ else out
def kET (out : Str) (n : Int) (s : Str) : Str := plusS out n ++ (digS n s ++ s)
def sumS (l : List Coef) : Str := l.foldl (fun o t => kET o t.c t.v) ⟨#[]⟩
def endB (o : Str) (c : Int) : Bool := (c != 0) || o.toList.isEmpty
def endS (o : Str) (c : Int) : Str := if endB o c then kET o c ⟨#[]⟩ else o
def kA9 (l : Lin) : Str := if kAD l then endS (sumS l.terms) l.const else ⟨#[]⟩
theorem sumS_next {l : List Coef} {k : Nat} (hk : k < l.length) : sumS (l.take (k + 1)) = kET (sumS (l.take k)) (l.getD k default).c (l.getD k default).v := by
 unfold sumS
 rw [kAU hk, List.foldl_append]; rfl
theorem trim_one (s : Str) (w : World) (hs : s.size ≤ 1000) : Calls Tryz.prog 219 #[.string s, .string ⟨#[49]⟩] w fun e w' => e = .returned (.string (cutS s)) ∧ w = w' :=
 (Tryz.strings_TrimSuffix s ⟨#[49]⟩ w (by omega)).mono fun e w' ⟨h1, h2⟩ => ⟨h1, h2.symm⟩
theorem cutS_size (s : Str) : (cutS s).size ≤ s.size := by
 unfold cutS Lib.trimSuffix
 show (if _ then _ else _ : List UInt8).toArray.size ≤ _
 split
 · rw [List.size_toArray, List.length_take]; exact Nat.min_le_right _ _
 · exact Nat.le_refl _
theorem itoaS_size (n : Int) (h0 : -9223372036854775808 ≤ n) (h1 : n ≤ 9223372036854775807) : (itoaS n).size ≤ 21 := by
 have := Lib.itoa_length_le n h0 h1
 unfold itoaS
 show (Lib.itoa n).toArray.size ≤ 21
 simpa using this
theorem kFW (n : Int) (h0 : -1000000 ≤ n) (h1 : n ≤ 1000000) (s : Str) (p : Nat) (out : Str) (w : World) (hb : Bx w p 9 [.string out]) (hos : out.size ≤ 1000000) (hss : s.size ≤ 1000000) (E : Env w) :
 Calls Tryz.prog 218 #[.int .i64 n, .string s, .pointer (some ⟨p, 0, none⟩)] w fun e w' => e = .returned (.tuple #[]) ∧ Bx w' p 9 [.string (kET out n s)] ∧ Kb p w w' := by
 have HI := hJ (kFQ n (by omega) (by omega) w E)
 have HB := hJ hb
 have hsz := itoaS_size n (by omega) (by omega)
 have hcz : (cutS (itoaS n)).size ≤ 21 := Nat.le_trans (cutS_size _) hsz
 have hpz : (out ++ (⟨#[43]⟩ : Str)).size ≤ 1000001 := by rw [ByteArray.size_append]; show out.size + 1 ≤ _; omega
 have HP : Hid (kET out n s = plusS out n ++ (digS n s ++ s)) := hJ rfl
 change Hid (Calls _ _ _ _ fun e w' => e = .returned (.string (itoaS n)) ∧ _) at HI
 have HD1 : Hid (oneB n s = true → digS n s = cutS (itoaS n)) := hJ (fun q => by unfold digS; rw [if_pos q])
 have HD0 : Hid (oneB n s = false → digS n s = itoaS n) := hJ (fun q => by unfold digS; rw [if_neg (by rw [q]; decide)])
 have HQ1 : Hid (plusB out n = true → plusS out n = out ++ ⟨#[43]⟩) := hJ (fun q => by unfold plusS; rw [if_pos q])
 have HQ0 : Hid (plusB out n = false → plusS out n = out) := hJ (fun q => by unfold plusS; rw [if_neg (by rw [q]; decide)])
 clear hb E
 generalize itoaS n = d at *
 go_enter func218, ntmps218
 go_wp2_with fail
 refine HI.out.mono ?_
 rintro e w1 ⟨rfl, hb1⟩
 have HB1 := hJ (HB.out.below hb1 HB.out.lt)
 have HK1 : Hid (Kb p w w1) := hJ ((Kb.refl p w).later hb1)
 have y0 := HB1.out.cell 0 _ rfl; have f0 := HB1.out.fz 0; clear hb1
 cases hs : s.toList.isEmpty with
 | true =>
   have HD : Hid (digS n s = d) := hJ (HD0.out (by unfold oneB; rw [hs]; rfl))
   by_cases hn0 : 0 ≤ n
   · cases ho : out.toList.isEmpty with
     | true =>
       have HF : Hid (kET out n s = out ++ (d ++ s)) := hJ (by rw [HP.out, HQ0.out (by unfold plusB; rw [ho]; simp), HD.out])
       have hsum : (d ++ s).size ≤ 1000021 := by rw [ByteArray.size_append]; omega
       go_wp2_with fail
       go_end0
       exact ⟨rfl, by rw [HF.out]; exact HB1.out.set 0 _, HK1.out.set _ _⟩
     | false =>
       have HF : Hid (kET out n s = (out ++ ⟨#[43]⟩) ++ (d ++ s)) := hJ (by rw [HP.out, HQ1.out (by unfold plusB; rw [ho, decide_eq_true (by omega)]; rfl), HD.out])
       have HB2 := hJ (HB1.out.set 0 (.string (out ++ ⟨#[43]⟩))); have y2 := HB2.out.cell 0 _ rfl; have f2 := HB2.out.fz 0
       have hsum : (d ++ s).size ≤ 1000021 := by rw [ByteArray.size_append]; omega
       go_wp2_with fail
       go_end0
       exact ⟨rfl, by rw [HF.out]; exact HB2.out.set 0 _, (HK1.out.set _ _).set _ _⟩
   · have HF : Hid (kET out n s = out ++ (d ++ s)) := hJ (by rw [HP.out, HQ0.out (by unfold plusB; rw [decide_eq_false (by omega)]; rfl), HD.out])
     have hsum : (d ++ s).size ≤ 1000021 := by rw [ByteArray.size_append]; omega
     go_wp2_with fail
     go_end0
     exact ⟨rfl, by rw [HF.out]; exact HB1.out.set 0 _, HK1.out.set _ _⟩
 | false =>
   by_cases hn1 : n = 1
   · subst hn1
     have HD : Hid (digS 1 s = cutS d) := hJ (HD1.out (by unfold oneB; rw [hs]; rfl))
     go_wp2_with fail
     refine (trim_one d _ (by omega)).mono ?_
     rintro e _ ⟨rfl, rfl⟩
     generalize cutS d = dd at *
     cases ho : out.toList.isEmpty with
     | true =>
       have HF : Hid (kET out 1 s = out ++ (dd ++ s)) := hJ (by rw [HP.out, HQ0.out (by unfold plusB; rw [ho]; simp), HD.out])
       have hsum : (dd ++ s).size ≤ 1000021 := by rw [ByteArray.size_append]; omega
       go_wp2_with fail
       go_end0
       exact ⟨rfl, by rw [HF.out]; exact HB1.out.set 0 _, HK1.out.set _ _⟩
     | false =>
       have HF : Hid (kET out 1 s = (out ++ ⟨#[43]⟩) ++ (dd ++ s)) := hJ (by rw [HP.out, HQ1.out (by unfold plusB; rw [ho, decide_eq_true (by omega)]; rfl), HD.out])
       have HB2 := hJ (HB1.out.set 0 (.string (out ++ ⟨#[43]⟩))); have y2 := HB2.out.cell 0 _ rfl; have f2 := HB2.out.fz 0
       have hsum : (dd ++ s).size ≤ 1000021 := by rw [ByteArray.size_append]; omega
       go_wp2_with fail
       go_end0
       exact ⟨rfl, by rw [HF.out]; exact HB2.out.set 0 _, (HK1.out.set _ _).set _ _⟩
   · by_cases hn2 : n = -1
     · subst hn2
       have HD : Hid (digS (-1) s = cutS d) := hJ (HD1.out (by unfold oneB; rw [hs]; rfl))
       go_wp2_with fail
       refine (trim_one d _ (by omega)).mono ?_
       rintro e _ ⟨rfl, rfl⟩
       generalize cutS d = dd at *
       have HF : Hid (kET out (-1) s = out ++ (dd ++ s)) := hJ (by rw [HP.out, HQ0.out (by unfold plusB; rw [decide_eq_false (by omega)]; rfl), HD.out])
       have hsum : (dd ++ s).size ≤ 1000021 := by rw [ByteArray.size_append]; omega
       go_wp2_with fail
       go_end0
       exact ⟨rfl, by rw [HF.out]; exact HB1.out.set 0 _, HK1.out.set _ _⟩
     · have hq1 : (n == 1) = false := beq_eq_false_iff_ne.2 hn1
       have hq2 : (n == -1) = false := beq_eq_false_iff_ne.2 hn2
       have HD : Hid (digS n s = d) := hJ (HD0.out (by unfold oneB; rw [hs, hq1, hq2]; rfl))
       by_cases hn0 : 0 ≤ n
       · cases ho : out.toList.isEmpty with
         | true =>
           have HF : Hid (kET out n s = out ++ (d ++ s)) := hJ (by rw [HP.out, HQ0.out (by unfold plusB; rw [ho]; simp), HD.out])
           have hsum : (d ++ s).size ≤ 1000021 := by rw [ByteArray.size_append]; omega
           go_wp2_with fail
           go_end0
           exact ⟨rfl, by rw [HF.out]; exact HB1.out.set 0 _, HK1.out.set _ _⟩
         | false =>
           have HF : Hid (kET out n s = (out ++ ⟨#[43]⟩) ++ (d ++ s)) := hJ (by rw [HP.out, HQ1.out (by unfold plusB; rw [ho, decide_eq_true (by omega)]; rfl), HD.out])
           have HB2 := hJ (HB1.out.set 0 (.string (out ++ ⟨#[43]⟩))); have y2 := HB2.out.cell 0 _ rfl; have f2 := HB2.out.fz 0
           have hsum : (d ++ s).size ≤ 1000021 := by rw [ByteArray.size_append]; omega
           go_wp2_with fail
           go_end0
           exact ⟨rfl, by rw [HF.out]; exact HB2.out.set 0 _, (HK1.out.set _ _).set _ _⟩
       · have HF : Hid (kET out n s = out ++ (d ++ s)) := hJ (by rw [HP.out, HQ0.out (by unfold plusB; rw [decide_eq_false (by omega)]; rfl), HD.out])
         have hsum : (d ++ s).size ≤ 1000021 := by rw [ByteArray.size_append]; omega
         go_wp2_with fail
         go_end0
         exact ⟨rfl, by rw [HF.out]; exact HB1.out.set 0 _, HK1.out.set _ _⟩
theorem partS_size {out : Str} {n : Int} {s : Str} (h0 : -1000000 ≤ n) (h1 : n ≤ 1000000) : (kET out n s).size ≤ out.size + 22 + s.size := by
 have q1 := itoaS_size n (by omega) (by omega)
 have q2 := cutS_size (itoaS n)
 have q3 : (digS n s).size ≤ 21 := by unfold digS; split <;> omega
 have q4 : (plusS out n).size ≤ out.size + 1 := by
  unfold plusS
  split
  · rw [ByteArray.size_append]; exact Nat.le_refl _
  · omega
 unfold kET
 rw [ByteArray.size_append, ByteArray.size_append]
 omega
theorem kGK {l : List Coef} (hb : Bd 1000000 l) (hn : ∀ t ∈ l, kBB t.v = true) : ∀ k, k ≤ l.length → (sumS (l.take k)).size ≤ k * 100
 | 0, _ => Nat.zero_le _
 | k + 1, hk => by
   have ih := kGK hb hn k (by omega)
   have hm := kAI (l := l) (k := k) (by omega)
   have q1 := kDM (hn _ hm); have q2 := hb _ hm
   rw [sumS_next (by omega)]
   have := partS_size (out := sumS (l.take k)) (s := (l.getD k default).v) q2.1 q2.2
   omega
theorem kF9 (x : Lin) : (kA9 x).size ≤ 2000 := by
 unfold kA9
 split
 · rename_i h
   obtain ⟨_, _, hb, hn, hc, hl⟩ := kBF h; have q := kGK hb hn x.terms.length (Nat.le_refl _); rw [List.take_length] at q
   unfold endS
   split
   · have := partS_size (out := sumS x.terms) (s := ⟨#[]⟩) hc.1 hc.2
     have e : (⟨#[]⟩ : Str).size = 0 := rfl
     omega
   · omega
 · exact Nat.zero_le _
theorem kFC {S : Blk} {x : Lin} {cs : List Value} {w : World} (h : RLin.rd S w cs x) (hz : szL x) (E : Env w) :
 Calls Tryz.prog 184 #[.agg cs.toArray] w fun e w' => e = .returned (.string (kA9 x)) ∧ Below w.heap.size w w' := by
 have HV : Hid (∀ W, Below w.heap.size w W → Calls Tryz.prog 80 #[.agg cs.toArray] W fun e w' => e = .returned (.bool (kAD x)) ∧ Below W.heap.size W w') := hJ (fun W hW => kCS (RLin.below h hW) hz (E.below hW))
 have HE := hJ (fun (W : World) (hW : Below w.heap.size w W) => E.below hW)
 obtain ⟨t, rfl, a, c, rfl, hs⟩ := h; have hm := hs.small; have HLn := hJ hs.len; have HS0 := hJ hs; clear hs E hz
 generalize hl1 : x.terms.length = n at *
 have HL := hJ hl1; clear hl1; obtain ⟨B0, ya, hW0⟩ := box1 w 65 [.int .i64 x.const, .slice a n c]; have xa0 := box0 ya 0 _ rfl; have xa1 := box0 ya 1 _ rfl; clear ya; have HC := hJ (HV.out _ B0.out)
 cases hv : kAD x with
 | false =>
   have HF : Hid (kA9 x = ⟨#[]⟩) := hJ (by unfold kA9; rw [hv]; rfl)
   rw [hv] at HC
   go_enter func184, ntmps184
   go_wp2_with fail
   refine (HC.out).mono ?_
   rintro e w1 ⟨rfl, hb⟩
   go_wp2_with fail
   go_ret
   exact ⟨by rw [HF.out]; rfl, B0.out.trans (hb.mono B0.out.size)⟩
 | true =>
   have HF : Hid (kA9 x = endS (sumS x.terms) x.const) := hJ (by unfold kA9; rw [hv]; rfl)
   have HVp := hJ (kBF hv); rw [hv] at HC; clear HV hv
   go_enter func184, ntmps184
   go_wp2_with fail
   refine HC.out.mono ?_
   rintro e w1 ⟨rfl, hb⟩
   have HW1 : Hid (Below w.heap.size w w1) := hJ (B0.out.trans (hb.mono B0.out.size))
   have HS := hJ (HS0.out.below HW1.out); have g0 := kAC xa0 _ hb; have g1 := kAC xa1 _ hb
   have hlw : w.heap.size < w1.heap.size := kCG g1
   clear xa0 xa1 hb HC HS0 B0 hW0
   go_wp2_with fail
   go_loopw [14] (fun i wr => ∃ k : Nat, k ≤ n ∧ i = .int .i64 k ∧ Hid (Bx wr w1.heap.size 9 [.string (sumS (x.terms.take k))]) ∧ Below w1.heap.size w1 wr) (fun i _ => n - (intOf i).toNat)
   case atStart => exact ⟨0, Nat.zero_le _, rfl, hJ (Bx.fresh w1 9 [.string ⟨#[]⟩]), (Below.refl _ _).alloc (Nat.le_refl _) _⟩
   case round =>
    obtain ⟨k, hk, rfl, HX, hB⟩ := hrel; have r0 := kAC g0 _ hB; have r1 := kAC g1 _ hB
    have HEr := hJ (fun (W : World) (hW : Below wr.heap.size wr W) => HE.out W (HW1.out.trans ((hB.trans (hW.mono hB.size)).mono HW1.out.size)))
    have y0 := HX.out.cell 0 _ rfl; have hlp := HX.out.lt
    by_cases hlt : k < n
    · obtain ⟨b, off, rfl, hbW, _⟩ := HS.out.form k hlt
      obtain ⟨c0, c1⟩ := (HS.out.below hB).coef k hlt
      have hkl : k < x.terms.length := by rw [HL.out]; exact hlt
      have HNx := hJ (sumS_next (l := x.terms) hkl); have hbd := HVp.out.2.2.1 _ (kAI hkl); have hnz := kDM (HVp.out.2.2.2.1 _ (kAI hkl))
      have hsz := kGK HVp.out.2.2.1 HVp.out.2.2.2.1 k (by omega)
      have hl12 := HVp.out.2.2.2.2.2
      generalize x.terms.getD k default = y at *
      generalize sumS (x.terms.take k) = o at *
      have HA : Hid (Below wr.heap.size wr (wr.alloc (.cells #[.string y.v, .int .i64 y.c] 62))) := hJ ((Below.refl _ _).alloc (Nat.le_refl _) _)
      have HCp := hJ (kFW y.c hbd.1 hbd.2 y.v w1.heap.size o _ (HX.out.below HA.out hlp) (by omega) (by omega) (HEr.out _ HA.out))
      clear hkl hbd hnz hsz hl12
      go_wp2_with fail
      refine HCp.out.mono ?_
      rintro e w4 ⟨rfl, hbx, hkb⟩
      have HB4 : Hid (Below w1.heap.size w1 w4) := hJ ((hB.trans (HA.out.mono hB.size)).trans (hkb.below (Nat.le_refl _) (by have := hB.size; simp; omega)))
      go_wp2_with fail
      go_roundw
      case rel => exact ⟨k + 1, by omega, by go_num, hJ (by rw [HNx.out]; exact hbx), HB4.out⟩
      case measure => simp [intOf]; omega
    · have HAll : Hid (sumS (x.terms.take k) = sumS x.terms) := hJ (by rw [List.take_of_length_le (by rw [HL.out]; omega)])
      have hsz := kGK HVp.out.2.2.1 HVp.out.2.2.2.1 k (by rw [HL.out]; omega)
      have hl12 : k ≤ 12 := by have q := HVp.out.2.2.2.2.2; rw [HL.out] at q; omega
      have hcs := HVp.out.2.2.2.2.1; rw [HAll.out] at HX y0 hsz
      have HEd : Hid (endS (sumS x.terms) x.const = if endB (sumS x.terms) x.const then kET (sumS x.terms) x.const ⟨#[]⟩ else sumS x.terms) := hJ rfl
      have HEb : Hid (endB (sumS x.terms) x.const = ((x.const != 0) || (sumS x.terms).toList.isEmpty)) := hJ rfl
      generalize sumS x.terms = o at *
      have HCp := hJ (kFW x.const hcs.1 hcs.2 ⟨#[]⟩ w1.heap.size o _ HX.out (by omega) (by show (0 : Nat) ≤ _; omega) (HEr.out _ (Below.refl _ _)))
      have HWr := hJ (HW1.out.trans (hB.mono HW1.out.size))
      by_cases hc0 : x.const = 0
      · have hd0 : (x.const != 0) = false := by rw [hc0]; rfl
        clear hcs
        cases ho : o.toList.isEmpty with
        | true =>
          have hq : endB o x.const = true := by rw [HEb.out, hd0, ho]; rfl
          clear hc0
          have HF2 : Hid (kA9 x = kET o x.const ⟨#[]⟩) := hJ (by rw [HF.out, HEd.out, hq]; rfl)
          go_wp2_with fail
          refine HCp.out.mono ?_
          rintro e w4 ⟨rfl, hbx, hkb⟩
          have z0 := hbx.cell 0 _ rfl
          go_wp2_with fail
          go_ret
          exact ⟨by rw [HF2.out]; rfl, HWr.out.trans (hkb.below (by have := HW1.out.size; omega) HWr.out.size)⟩
        | false =>
          have hq : endB o x.const = false := by rw [HEb.out, hd0, ho]; rfl
          have HF2 : Hid (kA9 x = o) := hJ (by rw [HF.out, HEd.out, hq]; rfl)
          clear hc0
          go_wp2_with fail
          go_ret
          exact ⟨by rw [HF2.out]; rfl, HWr.out⟩
      · have hd0 : (x.const != 0) = true := bne_iff_ne.2 hc0
        have hq : endB o x.const = true := by rw [HEb.out, hd0]; rfl
        clear hc0
        have HF2 : Hid (kA9 x = kET o x.const ⟨#[]⟩) := hJ (by rw [HF.out, HEd.out, hq]; rfl)
        go_wp2_with fail
        refine HCp.out.mono ?_
        rintro e w4 ⟨rfl, hbx, hkb⟩
        have z0 := hbx.cell 0 _ rfl
        go_wp2_with fail
        go_ret
        exact ⟨by rw [HF2.out]; rfl, HWr.out.trans (hkb.below (by have := HW1.out.size; omega) HWr.out.size)⟩
def kD2 (l : List Str) (sep : Str) : Str := ⟨(Lib.join (l.map (·.data.toList)) sep.data.toList).toArray⟩
theorem lens_le {M : Nat} : ∀ l : List Str, (∀ s ∈ l, s.size ≤ M) → Lib.lens (l.map (·.data.toList)) ≤ l.length * M
 | [], _ => by simp [Lib.lens]
 | s :: l, h => by
   have ih := lens_le l (fun x hx => h x (List.mem_cons_of_mem _ hx))
   have h1 : s.data.toList.length ≤ M := h s (List.mem_cons_self ..)
   have e : Lib.lens ((s :: l).map (·.data.toList)) = s.data.toList.length + Lib.lens (l.map (·.data.toList)) := by simp [Lib.lens]
   rw [e, List.length_cons, Nat.succ_mul]
   omega
theorem join_le {M : Nat} (l : List Str) (sep : Str) (h : ∀ s ∈ l, s.size ≤ M) : (Lib.join (l.map (·.data.toList)) sep.data.toList).length ≤ l.length * (M + sep.size) := by
 cases l with
 | nil => simp [Lib.join_nil]
 | cons s l =>
   have q := lens_le (s :: l) h
   rw [List.map_cons] at q ⊢
   rw [Lib.join_length]
   have e : sep.data.toList.length = sep.size := rfl
   rw [e, List.length_map, Nat.mul_add]
   rw [List.length_cons] at q ⊢
   have : sep.size * l.length ≤ (l.length + 1) * sep.size := by rw [Nat.mul_comm]; exact Nat.mul_le_mul_right _ (by omega)
   omega
theorem kFP {M : Nat} (l : List Str) (sep : Str) (h : ∀ s ∈ l, s.size ≤ M) : (kD2 l sep).size ≤ l.length * (M + sep.size) := by
 have := join_le l sep h
 show (Lib.join _ _).toArray.size ≤ _
 simpa using this
theorem kC3 {S : Blk} {l : List Str} {a : Option Addr} {n c : Nat} {w : World} (h : Sl RStr S w a n c l) (sep : Str) (hn : n ≤ 1000) (hz : ∀ s ∈ l, s.size ≤ 10000000) (hs : sep.size ≤ 1000) :
 Calls Tryz.prog 135 #[.slice a n c, .string sep] w fun e w' => e = .returned (.string (kD2 l sep)) ∧ Below w.heap.size w w' := by
 have hln := h.len
 by_cases h0 : n = 0
 · subst h0
   obtain rfl : l = [] := List.eq_nil_of_length_eq_zero hln
   exact (Tryz.strings_Join_none a c sep w).mono fun e w' ⟨h1, h2⟩ => ⟨h1, h2 ▸ Below.refl _ _⟩
 · obtain ⟨b, off, rfl, hb, _⟩ := h.form 0 (by omega)
   have hlen := join_le l sep hz
   have hm : l.length * (10000000 + sep.size) ≤ 1000 * (10000000 + 1000) := Nat.mul_le_mul (by omega) (by omega)
   subst hln
   have hlim := Nat.le_trans hlen (Nat.le_trans hm (by decide : 1000 * (10000000 + 1000) ≤ 140737488355328))
   exact Tryz.strings_Join b off c l sep w (fun j x hx => by
    obtain ⟨cs, hr, hc⟩ := h.cells j x hx
    have hr : cs = [.string x] := hr
    subst hr
    have := hc 0 _ rfl
    have e : RStr.size = 1 := rfl
    rw [e, Nat.mul_one, Nat.add_zero] at this
    exact this) hb (by omega) h.cap hlim
def rowL (s : Shp) : List Str := if s.row.toList.isEmpty then [] else [s.row ++ ⟨#[46, 46]⟩]
def textH (s : Shp) : Str := ((⟨#[91]⟩ : Str) ++ kD2 (rowL s ++ s.dims.map kA9) ⟨#[44, 32]⟩) ++ ⟨#[93]⟩
def kDK (s : Shp) : Str := if kAL s then textH s else ⟨#[]⟩
theorem kCR {α β : Type} [Inhabited α] (f : α → β) {l : List α} {k : Nat} (hk : k < l.length) : (l.take (k + 1)).map f = (l.take k).map f ++ [f (l.getD k default)] := by
 rw [kAU hk, List.map_append]; rfl
theorem parts_size (s : Shp) (hr : s.row.size ≤ 10000) : ∀ x ∈ rowL s ++ s.dims.map kA9, x.size ≤ 11000 := by
 intro x hx
 rcases List.mem_append.1 hx with q | q
 · unfold rowL at q
   split at q
   · simp at q
   · rw [List.mem_singleton] at q
     subst q; rw [ByteArray.size_append]
     have e : (⟨#[46, 46]⟩ : Str).size = 2 := rfl
     omega
 · obtain ⟨y, _, rfl⟩ := List.mem_map.1 q
   have := kF9 y
   omega
theorem rowL_len (s : Shp) : (rowL s).length ≤ 1 := by unfold rowL; split <;> simp
theorem textH_size {s : Shp} (hr : s.row.size ≤ 10000) (hd : s.dims.length ≤ 6) : (textH s).size ≤ 100000 := by
 have q := kFP (rowL s ++ s.dims.map kA9) ⟨#[44, 32]⟩ (parts_size s hr); have q2 := rowL_len s
 have e : (⟨#[44, 32]⟩ : Str).size = 2 := rfl
 rw [e, List.length_append, List.length_map] at q
 have q3 : ((rowL s).length + s.dims.length) * (11000 + 2) ≤ 7 * 11002 := Nat.mul_le_mul (by omega) (by omega)
 unfold textH
 rw [ByteArray.size_append, ByteArray.size_append]
 have e1 : (⟨#[91]⟩ : Str).size = 1 := rfl
 have e2 : (⟨#[93]⟩ : Str).size = 1 := rfl
 omega
theorem shape_text {S : Blk} {x : Shp} {cs : List Value} {w : World} (h : RShp.rd S w cs x) (hz : szH x) (hd6 : x.dims.length ≤ 6) (E : Env w) :
 Calls Tryz.prog 239 #[.agg cs.toArray] w fun e w' => e = .returned (.string (textH x)) ∧ Below w.heap.size w w' := by
 obtain ⟨t, rfl, a, c, rfl, hs⟩ := h; have hm := hs.small; have HZ := hJ hz.2; have hrz := hz.1; have HPs := hJ (parts_size x hz.1)
 have HE := hJ (fun (W : World) (hW : Below w.heap.size w W) => E.below hW)
 have HT : Hid (textH x = ((⟨#[91]⟩ : Str) ++ kD2 (rowL x ++ x.dims.map kA9) ⟨#[44, 32]⟩) ++ ⟨#[93]⟩) := hJ rfl
 have HJz := hJ (kFP (rowL x ++ x.dims.map kA9) ⟨#[44, 32]⟩ (parts_size x hz.1)); have HS0 := hJ hs; have hrl := rowL_len x; clear hs E hz
 generalize hn : x.dims.length = n at *
 have HL := hJ hn; clear hn; obtain ⟨B0, ya, hW0⟩ := box1 w 37 [.string x.row, .slice a n c]; have xa0 := box0 ya 0 _ rfl; have xa1 := box0 ya 1 _ rfl; clear ya; have HS := hJ (HS0.out.below B0.out)
 have HEW := hJ (fun (W' : World) (hW : Below (w.alloc (.cells #[.string x.row, .slice a n c] 37)).heap.size (w.alloc (.cells #[.string x.row, .slice a n c] 37)) W') => HE.out W' (B0.out.trans (hW.mono B0.out.size)))
 clear HS0 HE
 go_enter func239, ntmps239
 cases hro : x.row.toList.isEmpty with
 | true =>
   have HR0 : Hid (rowL x = []) := hJ (by unfold rowL; rw [hro]; rfl)
   go_wp2_with fail
   generalize (w.alloc (.cells #[.string x.row, .slice a n c] 37)) = W at *
   have HO0 : Hid (Own RStr 9 (fun _ => False) W W.heap.size (.slice none 0 0) (rowL x ++ (x.dims.take 0).map kA9)) := hJ (by rw [HR0.out]; exact Own.nil _ _ _ _ _)
   have HB0 : Hid (Below W.heap.size W W) := hJ (Below.refl _ _)
   go_loopw [3, 18] (fun v i wr => ∃ k : Nat, k ≤ n ∧ i = .int .i64 k ∧ Hid (Own RStr 9 (fun _ => False) wr W.heap.size v (rowL x ++ (x.dims.take k).map kA9)) ∧ Below W.heap.size W wr) (fun _ i _ => n - (intOf i).toNat)
   case atStart => exact ⟨0, Nat.zero_le _, rfl, HO0, HB0.out⟩
   case round =>
    obtain ⟨k, hk, rfl, HO, hB⟩ := hrel; have hsz := hB.size
    by_cases hlt : k < n
    · obtain ⟨b, off, rfl, hbW, _⟩ := HS.out.form k hlt
      obtain ⟨_, hr, ⟨ta, tc, rfl, _⟩, c0, c1⟩ := (HS.out.below hB).lin k hlt
      have hkl : k < x.dims.length := by rw [HL.out]; exact hlt
      have HNx := hJ (kCR kA9 hkl); have HZk := hJ (HZ.out _ (kAI hkl)); have HR := hJ hr
      have HLen : Hid ((rowL x ++ (x.dims.take k).map kA9).length ≤ 7) := hJ (by rw [List.length_append, List.length_map, List.length_take]; omega)
      clear hr hkl
      generalize x.dims.getD k default = y at *
      have HA : Hid (Below wr.heap.size wr (wr.alloc (.cells #[.int .i64 y.const, .slice ta y.terms.length tc] 65))) := hJ ((Below.refl _ _).alloc (Nat.le_refl _) _)
      have HC := hJ (kFC (RLin.below HR.out HA.out) HZk.out (HEW.out _ (hB.trans (HA.out.mono hB.size))))
      generalize kA9 y = o at *
      obtain ⟨va, vm, vc, rfl⟩ := HO.out.shape
      go_wp2_with fail
      refine HC.out.mono ?_
      rintro e w4 ⟨rfl, hb4⟩
      have HB4 := hJ (HA.out.trans (hb4.mono HA.out.size)); have hz4 := HB4.out.size
      go_wp2_with (at_builtin; refine kA8 kD3 rfl _ _ rfl W.heap.size _ _ rfl ((HO.out.below HB4.out).alloc _) _ o [.string o] rfl rfl (kA4 9 (by (simp only [kAG, kAE, Array.getElem?_push, Array.size_push]; simp))) (by have := HLen.out; omega) (by have := HLen.out; unfold maxLen; omega) (by simp; omega) ?_; intro v9 w9 hown9 hb9 hk9; obtain ⟨a9, m9, c9, rfl⟩ := hown9.shape)
      go_roundw
      case rel => exact ⟨k + 1, by omega, by go_num, hJ (by rw [HNx.out, ← List.append_assoc]; exact hown9), (hB.trans ((HB4.out.alloc HB4.out.size _).mono hB.size)).trans hb9⟩
      case measure => simp [intOf]; omega
    · have HAll : Hid (rowL x ++ (x.dims.take k).map kA9 = rowL x ++ x.dims.map kA9) := hJ (by rw [List.take_of_length_le (by rw [HL.out]; omega)])
      rw [HAll.out] at HO; obtain ⟨va, vc, rfl, hsl⟩ := HO.out.sl
      have hlen : (rowL x ++ x.dims.map kA9).length ≤ 7 := by rw [List.length_append, List.length_map, HL.out]; omega
      have HC := hJ (kC3 hsl ⟨#[44, 32]⟩ (by omega) (fun s hs => Nat.le_trans (HPs.out s hs) (by decide)) (by decide))
      have hjz : (kD2 (rowL x ++ x.dims.map kA9) ⟨#[44, 32]⟩).size ≤ 100000 := by
       have q := HJz.out
       have e : (⟨#[44, 32]⟩ : Str).size = 2 := rfl
       have q3 : (rowL x ++ x.dims.map kA9).length * (11000 + (⟨#[44, 32]⟩ : Str).size) ≤ 7 * 11002 := Nat.mul_le_mul hlen (by rw [e]; omega)
       omega
      clear hsl HJz HAll HPs
      generalize kD2 (rowL x ++ x.dims.map kA9) ⟨#[44, 32]⟩ = j at *
      generalize (rowL x ++ x.dims.map kA9).length = m at *
      have hjz2 : ((⟨#[91]⟩ : Str) ++ j).size ≤ 100001 := by rw [ByteArray.size_append]; show 1 + j.size ≤ _; omega
      go_wp2_with fail
      refine HC.out.mono ?_
      rintro e w4 ⟨rfl, hb4⟩
      go_wp2_with fail
      go_ret
      exact ⟨by rw [HT.out]; rfl, B0.out.trans ((hB.trans (hb4.mono hB.size)).mono B0.out.size)⟩
 | false =>
   have HR0 : Hid (rowL x = [x.row ++ ⟨#[46, 46]⟩]) := hJ (by unfold rowL; rw [hro]; rfl)
   have hrs : (x.row ++ (⟨#[46, 46]⟩ : Str)).size ≤ 10002 := by rw [ByteArray.size_append]; show x.row.size + 2 ≤ _; omega
   go_wp2_with (at_builtin; refine kA8 kD3 rfl _ _ rfl (w.alloc (.cells #[.string x.row, .slice a n c] 37)).heap.size _ [] rfl (Own.nil _ _ (fun _ => False) _ _) _ (x.row ++ (⟨#[46, 46]⟩ : Str)) [.string (x.row ++ (⟨#[46, 46]⟩ : Str))] rfl rfl (kA4 9 (by (simp only [kAG, kAE, Array.getElem?_push, Array.size_push]; simp))) (by simp) (by unfold maxLen; simp) (by simp) ?_; intro v9 w9 hown9 hb9 hk9; obtain ⟨a9, m9, c9, rfl⟩ := hown9.shape; have HB0 := hJ (((Below.refl _ _).alloc (Nat.le_refl _) _).trans hb9); have r0 := kAC xa0 _ HB0.out; have r1 := kAC xa1 _ HB0.out)
   generalize (w.alloc (.cells #[.string x.row, .slice a n c] 37)) = W at *
   have HO0 : Hid (Own RStr 9 (fun _ => False) w9 W.heap.size (.slice a9 m9 c9) (rowL x ++ (x.dims.take 0).map kA9)) := hJ (by rw [HR0.out]; exact hown9)
   clear hown9 hb9 hk9
   go_loopw [3, 18] (fun v i wr => ∃ k : Nat, k ≤ n ∧ i = .int .i64 k ∧ Hid (Own RStr 9 (fun _ => False) wr W.heap.size v (rowL x ++ (x.dims.take k).map kA9)) ∧ Below W.heap.size W wr) (fun _ i _ => n - (intOf i).toNat)
   case atStart => exact ⟨0, Nat.zero_le _, rfl, HO0, HB0.out⟩
   case round =>
    obtain ⟨k, hk, rfl, HO, hB⟩ := hrel; have hsz := hB.size
    by_cases hlt : k < n
    · obtain ⟨b, off, rfl, hbW, _⟩ := HS.out.form k hlt
      obtain ⟨_, hr, ⟨ta, tc, rfl, _⟩, c0, c1⟩ := (HS.out.below hB).lin k hlt
      have hkl : k < x.dims.length := by rw [HL.out]; exact hlt
      have HNx := hJ (kCR kA9 hkl); have HZk := hJ (HZ.out _ (kAI hkl)); have HR := hJ hr
      have HLen : Hid ((rowL x ++ (x.dims.take k).map kA9).length ≤ 7) := hJ (by rw [List.length_append, List.length_map, List.length_take]; omega)
      clear hr hkl
      generalize x.dims.getD k default = y at *
      have HA : Hid (Below wr.heap.size wr (wr.alloc (.cells #[.int .i64 y.const, .slice ta y.terms.length tc] 65))) := hJ ((Below.refl _ _).alloc (Nat.le_refl _) _)
      have HC := hJ (kFC (RLin.below HR.out HA.out) HZk.out (HEW.out _ (hB.trans (HA.out.mono hB.size))))
      generalize kA9 y = o at *
      obtain ⟨va, vm, vc, rfl⟩ := HO.out.shape
      go_wp2_with fail
      refine HC.out.mono ?_
      rintro e w4 ⟨rfl, hb4⟩
      have HB4 := hJ (HA.out.trans (hb4.mono HA.out.size)); have hz4 := HB4.out.size
      go_wp2_with (at_builtin; refine kA8 kD3 rfl _ _ rfl W.heap.size _ _ rfl ((HO.out.below HB4.out).alloc _) _ o [.string o] rfl rfl (kA4 9 (by (simp only [kAG, kAE, Array.getElem?_push, Array.size_push]; simp))) (by have := HLen.out; omega) (by have := HLen.out; unfold maxLen; omega) (by simp; omega) ?_; intro v9 w9 hown9 hb9 hk9; obtain ⟨a9, m9, c9, rfl⟩ := hown9.shape)
      go_roundw
      case rel => exact ⟨k + 1, by omega, by go_num, hJ (by rw [HNx.out, ← List.append_assoc]; exact hown9), (hB.trans ((HB4.out.alloc HB4.out.size _).mono hB.size)).trans hb9⟩
      case measure => simp [intOf]; omega
    · have HAll : Hid (rowL x ++ (x.dims.take k).map kA9 = rowL x ++ x.dims.map kA9) := hJ (by rw [List.take_of_length_le (by rw [HL.out]; omega)])
      rw [HAll.out] at HO; obtain ⟨va, vc, rfl, hsl⟩ := HO.out.sl
      have hlen : (rowL x ++ x.dims.map kA9).length ≤ 7 := by rw [List.length_append, List.length_map, HL.out]; omega
      have HC := hJ (kC3 hsl ⟨#[44, 32]⟩ (by omega) (fun s hs => Nat.le_trans (HPs.out s hs) (by decide)) (by decide))
      have hjz : (kD2 (rowL x ++ x.dims.map kA9) ⟨#[44, 32]⟩).size ≤ 100000 := by
       have q := HJz.out
       have e : (⟨#[44, 32]⟩ : Str).size = 2 := rfl
       have q3 : (rowL x ++ x.dims.map kA9).length * (11000 + (⟨#[44, 32]⟩ : Str).size) ≤ 7 * 11002 := Nat.mul_le_mul hlen (by rw [e]; omega)
       omega
      clear hsl HJz HAll HPs
      generalize kD2 (rowL x ++ x.dims.map kA9) ⟨#[44, 32]⟩ = j at *
      generalize (rowL x ++ x.dims.map kA9).length = m at *
      have hjz2 : ((⟨#[91]⟩ : Str) ++ j).size ≤ 100001 := by rw [ByteArray.size_append]; show 1 + j.size ≤ _; omega
      go_wp2_with fail
      refine HC.out.mono ?_
      rintro e w4 ⟨rfl, hb4⟩
      go_wp2_with fail
      go_ret
      exact ⟨by rw [HT.out]; rfl, B0.out.trans ((hB.trans (hb4.mono hB.size)).mono B0.out.size)⟩
theorem shape_Print {S : Blk} {x : Shp} {cs : List Value} {w : World} (h : RShp.rd S w cs x) (hz : szH x) (E : Env w) :
 Calls Tryz.prog 217 #[.agg cs.toArray] w fun e w' => e = .returned (.tuple #[.string (kDK x), .int .i64 (if kAL x then 0 else 1)]) ∧ Below w.heap.size w w' := by
 have HV : Hid (∀ W, Below w.heap.size w W → Calls Tryz.prog 128 #[.agg cs.toArray] W fun e w' => e = .returned (.bool (kAL x)) ∧ Below W.heap.size W w') := hJ (fun W hW => kDJ (RShp.below h hW) hz (E.below hW))
 have HX : Hid (kAL x = true → ∀ W, Below w.heap.size w W → Calls Tryz.prog 239 #[.agg cs.toArray] W fun e w' => e = .returned (.string (textH x)) ∧ Below W.heap.size W w') := hJ (fun hv W hW => shape_text (RShp.below h hW) hz (kFA hv).2.1 (E.below hW))
 obtain ⟨t, rfl, a, c, rfl, hs⟩ := h; clear hs E hz; obtain ⟨B0, ya, hW0⟩ := box1 w 37 [.string x.row, .slice a x.dims.length c]; have xa0 := box0 ya 0 _ rfl; have xa1 := box0 ya 1 _ rfl; clear ya; have HC := hJ (HV.out _ B0.out)
 cases hv : kAL x with
 | false =>
   have HF : Hid (kDK x = ⟨#[]⟩) := hJ (by unfold kDK; rw [hv]; rfl)
   rw [hv] at HC
   go_enter func217, ntmps217
   go_wp2_with fail
   refine (HC.out).mono ?_
   rintro e w1 ⟨rfl, hb⟩
   go_wp2_with fail
   go_returns
   exact ⟨by rw [HF.out]; rfl, B0.out.trans (hb.mono B0.out.size)⟩
 | true =>
   have HF : Hid (kDK x = textH x) := hJ (by unfold kDK; rw [hv]; rfl)
   have HX2 := hJ (HX.out hv); rw [hv] at HC
   go_enter func217, ntmps217
   go_wp2_with fail
   refine (HC.out).mono ?_
   rintro e w1 ⟨rfl, hb⟩
   have HW1 := hJ (B0.out.trans (hb.mono B0.out.size)); have g0 := kAC xa0 _ hb; have g1 := kAC xa1 _ hb
   have hlw : w.heap.size < w1.heap.size := kCG g1
   have HC2 := hJ (HX2.out _ HW1.out)
   go_wp2_with fail
   refine (HC2.out).mono ?_
   rintro e w2 ⟨rfl, hb2⟩
   go_wp2_with fail
   go_returns
   exact ⟨by rw [HF.out]; rfl, HW1.out.trans (hb2.mono HW1.out.size)⟩
def kF2 (t : Typ) : Str := if (kDK t.shape).toList == [91, 93] then t.elem else kDK t.shape ++ t.elem
theorem types_text {S : Blk} {x : Typ} {cs : List Value} {w : World} (h : RTyp.rd S w cs x) (hz : szT x) (E : Env w) :
 Calls Tryz.prog 182 #[.agg cs.toArray] w fun e w' => e = .returned (.string (kF2 x)) ∧ Below w.heap.size w w' := by
 obtain ⟨t, rfl, a, c, rfl, hs⟩ := h
 have HX : Hid (∀ W, Below w.heap.size w W → Calls Tryz.prog 217 #[.agg #[.string x.shape.row, .slice a x.shape.dims.length c]] W fun e w' => e = .returned (.tuple #[.string (kDK x.shape), .int .i64 (if kAL x.shape then 0 else 1)]) ∧ Below W.heap.size W w') :=
  hJ (fun W hW => shape_Print (cs := [.string x.shape.row, .slice a x.shape.dims.length c]) ⟨_, rfl, a, c, rfl, hs.below hW⟩ hz.2 (E.below hW))
 have hez : x.elem.size ≤ 10000 := hz.1
 have hpz : (kDK x.shape).size ≤ 100000 := by
  unfold kDK
  split
  · rename_i hv; exact textH_size hz.2.1 (kFA hv).2.1
  · exact Nat.zero_le _
 have HT : Hid (kF2 x = if (kDK x.shape).toList == [91, 93] then x.elem else kDK x.shape ++ x.elem) := hJ rfl
 clear hs E hz; obtain ⟨B0, ya, hW0⟩ := box1 w 39 [.string x.elem, .string x.shape.row, .slice a x.shape.dims.length c]; have xa0 := box0 ya 0 _ rfl; have xa1 := box0 ya 1 _ rfl; have xa2 := box0 ya 2 _ rfl; clear ya; have HC := hJ (HX.out _ B0.out)
 generalize kDK x.shape = p at *
 generalize (if kAL x.shape then (0 : Int) else 1) = ev at *
 by_cases hq : (p.toList == [91, 93]) = true
 · have HF : Hid (kF2 x = x.elem) := hJ (by rw [HT.out, if_pos hq])
   go_enter func182, ntmps182
   go_wp2_with fail
   refine (HC.out).mono ?_
   rintro e w1 ⟨rfl, hb⟩
   have g0 := kAC xa0 _ hb
   go_wp2_with fail
   go_ret
   exact ⟨by rw [HF.out]; rfl, B0.out.trans (hb.mono B0.out.size)⟩
 · have HF : Hid (kF2 x = p ++ x.elem) := hJ (by rw [HT.out, if_neg hq])
   have hq : (p.toList == [91, 93]) = false := by simpa using hq
   go_enter func182, ntmps182
   go_wp2_with fail
   refine (HC.out).mono ?_
   rintro e w1 ⟨rfl, hb⟩
   have g0 := kAC xa0 _ hb
   go_wp2_with fail
   go_ret
   exact ⟨by rw [HF.out]; rfl, B0.out.trans (hb.mono B0.out.size)⟩
theorem joinedTyp {S : Blk} (l : List Typ) (a : Option Addr) (n c : Nat) (w : World) (h : Sl RTyp S w a n c l) (g : FuncId) (hen : Ent1 g) (pr : Typ → Str) (hp : ∀ (W : World) (x : Typ) (cs : List Value), Below w.heap.size w W → x ∈ l → RTyp.rd S W cs x → Calls Tryz.prog g #[.agg cs.toArray] W fun e w' => e = .returned (.string (pr x)) ∧ Below W.heap.size W w') (hsz : ∀ x ∈ l, (pr x).size ≤ 1000000) (hn : n ≤ 100) :
 Calls Tryz.prog 181 #[.slice a n c, .func (.func g) #[] #[]] w fun e w' => e = .returned (.string (kD2 (l.map pr) ⟨#[44, 32]⟩)) ∧ Below w.heap.size w w' := by
 have HS := hJ h; have HL := hJ h.len; have HP := hJ hp; have HZ := hJ hsz; have hm := h.small; clear h hp hsz
 go_enter func181, ntmps181
 go_wp2_with fail
 go_loopw [5, 10] (fun v i wr => ∃ k : Nat, k ≤ n ∧ i = .int .i64 k ∧ Hid (Own RStr 9 (fun _ => False) wr w.heap.size v ((l.take k).map pr)) ∧ Below w.heap.size w wr) (fun _ i _ => n - (intOf i).toNat)
 case atStart => exact ⟨0, Nat.zero_le _, rfl, Own.nil _ _ _ _ _, Below.refl _ _⟩
 case round =>
  obtain ⟨k, hk, rfl, HO, hB⟩ := hrel; have hz := hB.size
  by_cases hlt : k < n
  · obtain ⟨b, off, rfl, hbW, _⟩ := HS.out.form k hlt
    obtain ⟨_, hr, ⟨ta, tc, rfl, _⟩, c0, c1, c2⟩ := (HS.out.below hB).typ k hlt
    have hkl : k < l.length := by rw [HL.out]; exact hlt
    have HNx := hJ (kCR pr hkl); have HM := hJ (kAI hkl); have HR := hJ hr
    have HLen : Hid (((l.take k).map pr).length ≤ 100) := hJ (by rw [List.length_map, List.length_take]; omega)
    clear hr hkl
    generalize l.getD k default = y at *
    have HA : Hid (Below wr.heap.size wr (wr.alloc (.cells [.string y.elem, .string y.shape.row, .slice ta y.shape.dims.length tc].toArray 39))) := hJ ((Below.refl _ _).alloc (Nat.le_refl _) _)
    have HC := hJ (HP.out _ _ _ (hB.trans (HA.out.mono hB.size)) HM.out (RTyp.below HR.out HA.out))
    generalize pr y = o at *
    obtain ⟨va, vm, vc, rfl⟩ := HO.out.shape
    go_wp2_with (first | (go_at_fn g; refine HC.out.mono ?_; rintro e w4 ⟨rfl, hb4⟩; have HB4 := hJ (HA.out.trans (hb4.mono HA.out.size)); have hz4 := HB4.out.size) | (at_builtin; refine kA8 kD3 rfl _ _ rfl w.heap.size _ _ rfl ((HO.out.below HB4.out).alloc _) _ o [.string o] rfl rfl (kA4 9 (by (simp only [kAG, kAE, Array.getElem?_push, Array.size_push]; simp))) (by have := HLen.out; omega) (by have := HLen.out; unfold maxLen; omega) (by simp; omega) ?_; intro v9 w9 hown9 hb9 hk9; obtain ⟨a9, m9, c9, rfl⟩ := hown9.shape))
    go_roundw
    case rel => exact ⟨k + 1, by omega, by go_num, hJ (by rw [HNx.out]; exact hown9), (hB.trans ((HB4.out.alloc HB4.out.size _).mono hB.size)).trans hb9⟩
    case measure => simp [intOf]; omega
  · have HAll : Hid ((l.take k).map pr = l.map pr) := hJ (by rw [List.take_of_length_le (by rw [HL.out]; omega)])
    rw [HAll.out] at HO; obtain ⟨va, vc, rfl, hsl⟩ := HO.out.sl
    have hlen : (l.map pr).length ≤ 100 := by rw [List.length_map, HL.out]; exact hn
    have HC := hJ (kC3 hsl ⟨#[44, 32]⟩ (by omega) (fun s hs => by obtain ⟨x, hx, rfl⟩ := List.mem_map.1 hs; exact Nat.le_trans (HZ.out x hx) (by decide)) (by decide))
    clear hsl HAll
    generalize (l.map pr).length = m at *
    go_wp2_with fail
    refine HC.out.mono ?_
    rintro e w4 ⟨rfl, hb4⟩
    go_wp2_with fail
    go_ret
    exact ⟨rfl, hB.trans (hb4.mono hB.size)⟩
theorem joinedLin {S : Blk} (l : List Lin) (a : Option Addr) (n c : Nat) (w : World) (h : Sl RLin S w a n c l) (g : FuncId) (hen : Ent1 g) (pr : Lin → Str) (hp : ∀ (W : World) (x : Lin) (cs : List Value), Below w.heap.size w W → x ∈ l → RLin.rd S W cs x → Calls Tryz.prog g #[.agg cs.toArray] W fun e w' => e = .returned (.string (pr x)) ∧ Below W.heap.size W w') (hsz : ∀ x ∈ l, (pr x).size ≤ 1000000) (hn : n ≤ 100) :
 Calls Tryz.prog 183 #[.slice a n c, .func (.func g) #[] #[]] w fun e w' => e = .returned (.string (kD2 (l.map pr) ⟨#[44, 32]⟩)) ∧ Below w.heap.size w w' := by
 have HS := hJ h; have HL := hJ h.len; have HP := hJ hp; have HZ := hJ hsz; have hm := h.small; clear h hp hsz
 go_enter func183, ntmps183
 go_wp2_with fail
 go_loopw [5, 10] (fun v i wr => ∃ k : Nat, k ≤ n ∧ i = .int .i64 k ∧ Hid (Own RStr 9 (fun _ => False) wr w.heap.size v ((l.take k).map pr)) ∧ Below w.heap.size w wr) (fun _ i _ => n - (intOf i).toNat)
 case atStart => exact ⟨0, Nat.zero_le _, rfl, Own.nil _ _ _ _ _, Below.refl _ _⟩
 case round =>
  obtain ⟨k, hk, rfl, HO, hB⟩ := hrel; have hz := hB.size
  by_cases hlt : k < n
  · obtain ⟨b, off, rfl, hbW, _⟩ := HS.out.form k hlt
    obtain ⟨_, hr, ⟨ta, tc, rfl, _⟩, c0, c1⟩ := (HS.out.below hB).lin k hlt
    have hkl : k < l.length := by rw [HL.out]; exact hlt
    have HNx := hJ (kCR pr hkl); have HM := hJ (kAI hkl); have HR := hJ hr
    have HLen : Hid (((l.take k).map pr).length ≤ 100) := hJ (by rw [List.length_map, List.length_take]; omega)
    clear hr hkl
    generalize l.getD k default = y at *
    have HA : Hid (Below wr.heap.size wr (wr.alloc (.cells [.int .i64 y.const, .slice ta y.terms.length tc].toArray 65))) := hJ ((Below.refl _ _).alloc (Nat.le_refl _) _)
    have HC := hJ (HP.out _ _ _ (hB.trans (HA.out.mono hB.size)) HM.out (RLin.below HR.out HA.out))
    generalize pr y = o at *
    obtain ⟨va, vm, vc, rfl⟩ := HO.out.shape
    go_wp2_with (first | (go_at_fn g; refine HC.out.mono ?_; rintro e w4 ⟨rfl, hb4⟩; have HB4 := hJ (HA.out.trans (hb4.mono HA.out.size)); have hz4 := HB4.out.size) | (at_builtin; refine kA8 kD3 rfl _ _ rfl w.heap.size _ _ rfl ((HO.out.below HB4.out).alloc _) _ o [.string o] rfl rfl (kA4 9 (by (simp only [kAG, kAE, Array.getElem?_push, Array.size_push]; simp))) (by have := HLen.out; omega) (by have := HLen.out; unfold maxLen; omega) (by simp; omega) ?_; intro v9 w9 hown9 hb9 hk9; obtain ⟨a9, m9, c9, rfl⟩ := hown9.shape))
    go_roundw
    case rel => exact ⟨k + 1, by omega, by go_num, hJ (by rw [HNx.out]; exact hown9), (hB.trans ((HB4.out.alloc HB4.out.size _).mono hB.size)).trans hb9⟩
    case measure => simp [intOf]; omega
  · have HAll : Hid ((l.take k).map pr = l.map pr) := hJ (by rw [List.take_of_length_le (by rw [HL.out]; omega)])
    rw [HAll.out] at HO; obtain ⟨va, vc, rfl, hsl⟩ := HO.out.sl
    have hlen : (l.map pr).length ≤ 100 := by rw [List.length_map, HL.out]; exact hn
    have HC := hJ (kC3 hsl ⟨#[44, 32]⟩ (by omega) (fun s hs => by obtain ⟨x, hx, rfl⟩ := List.mem_map.1 hs; exact Nat.le_trans (HZ.out x hx) (by decide)) (by decide))
    clear hsl HAll
    generalize (l.map pr).length = m at *
    go_wp2_with fail
    refine HC.out.mono ?_
    rintro e w4 ⟨rfl, hb4⟩
    go_wp2_with fail
    go_ret
    exact ⟨rfl, hB.trans (hb4.mono hB.size)⟩
def headS (s : Sch) : Str := (((⟨#[40]⟩ : Str) ++ kD2 (s.params.map kF2) ⟨#[44, 32]⟩) ++ ⟨#[41, 32, 45, 62, 32]⟩) ++ kF2 s.result
def whereS (s : Sch) : Str := (⟨#[32, 119, 104, 101, 114, 101, 32]⟩ : Str) ++ kD2 (s.wh.map kA9) ⟨#[44, 32]⟩
def textS (s : Sch) : Str := if 0 < s.wh.length then headS s ++ whereS s else headS s
def kEX (s : Sch) : Str := if kAJ s then textS s else ⟨#[]⟩
theorem printH_size {s : Shp} (hz : szH s) : (kDK s).size ≤ 100000 := by
 unfold kDK
 split
 · rename_i hv; exact textH_size hz.1 (kFA hv).2.1
 · exact Nat.zero_le _
theorem kFJ {t : Typ} (hz : szT t) : (kF2 t).size ≤ 110000 := by
 have h1 := printH_size hz.2; have h2 := hz.1
 unfold kF2
 split
 · omega
 · rw [ByteArray.size_append]; omega
theorem joinT_size {s : Sch} (hz : szS s) (hl : s.params.length ≤ 12) : (kD2 (s.params.map kF2) ⟨#[44, 32]⟩).size ≤ 2000000 := by
 have q := kFP (M := 110000) (s.params.map kF2) ⟨#[44, 32]⟩ (fun x hx => by
  obtain ⟨t, ht, rfl⟩ := List.mem_map.1 hx
  exact kFJ (hz.1 t ht))
 rw [List.length_map] at q
 have q3 : s.params.length * (110000 + (⟨#[44, 32]⟩ : Str).size) ≤ 12 * 110002 := Nat.mul_le_mul hl (Nat.le_refl _)
 omega
theorem joinL_size {s : Sch} (hl : s.wh.length ≤ 60) : (kD2 (s.wh.map kA9) ⟨#[44, 32]⟩).size ≤ 200000 := by
 have q := kFP (M := 2000) (s.wh.map kA9) ⟨#[44, 32]⟩ (fun x hx => by
  obtain ⟨t, ht, rfl⟩ := List.mem_map.1 hx
  exact kF9 t)
 rw [List.length_map] at q
 have q3 : s.wh.length * (2000 + (⟨#[44, 32]⟩ : Str).size) ≤ 60 * 2002 := Nat.mul_le_mul hl (Nat.le_refl _)
 omega
theorem printS_size {s : Sch} (hz : szS s) : (kEX s).size ≤ 3000000 := by
 unfold kEX
 split
 · rename_i hv
   obtain ⟨h1, h2, _⟩ := kAT hv; have q1 := joinT_size hz h1; have q2 := joinL_size (s := s) h2; have q3 := kFJ hz.2.1
   have e1 : (headS s).size ≤ 2110006 := by
    unfold headS
    rw [ByteArray.size_append, ByteArray.size_append, ByteArray.size_append]
    show 1 + _ + 5 + _ ≤ _
    omega
   have e2 : (whereS s).size ≤ 200007 := by
    unfold whereS
    rw [ByteArray.size_append]
    show 7 + _ ≤ _
    omega
   unfold textS
   split
   · rw [ByteArray.size_append]; omega
   · omega
 · exact Nat.zero_le _
theorem types_PrintScheme {S : Blk} {x : Sch} {cs : List Value} {w : World} (h : RSch.rd S w cs x) (hz : szS x) (E : Env w) :
 Calls Tryz.prog 134 #[.agg cs.toArray] w fun e w' => e = .returned (.tuple #[.string (kEX x), .int .i64 (if kAJ x then 0 else 1)]) ∧ Below w.heap.size w w' := by
 have HV : Hid (∀ W, Below w.heap.size w W → Calls Tryz.prog 36 #[.agg cs.toArray] W fun e w' => e = .returned (.bool (kAJ x)) ∧ Below W.heap.size W w') := hJ (fun W hW => kBX (RSch.below h hW) hz (E.below hW))
 have HE := hJ (fun (W : World) (hW : Below w.heap.size w W) => E.below hW)
 have HZ := hJ hz; obtain ⟨p, t, q, rfl, ⟨ap, cp, rfl, hp⟩, ⟨at_, ct, rfl, ht⟩, ⟨aq, cq, rfl, hq⟩⟩ := h; have HPs := hJ hp; have HTs := hJ ht; have HQs := hJ hq; have hmq := hq.small; clear hp ht hq E hz; obtain ⟨B0, ya, hW0⟩ := box1 w 41 [.slice ap x.params.length cp, .string x.result.elem, .string x.result.shape.row, .slice at_ x.result.shape.dims.length ct, .slice aq x.wh.length cq]; have xa0 := box0 ya 0 _ rfl; have xa1 := box0 ya 1 _ rfl; have xa2 := box0 ya 2 _ rfl; have xa3 := box0 ya 3 _ rfl; have xa4 := box0 ya 4 _ rfl; clear ya; have HC := hJ (HV.out _ B0.out)
 cases hv : kAJ x with
 | false =>
   have HF : Hid (kEX x = ⟨#[]⟩) := hJ (by unfold kEX; rw [hv]; rfl)
   rw [hv] at HC; clear HV
   go_enter func134, ntmps134
   go_wp2_with fail
   refine (HC.out).mono ?_
   rintro e w1 ⟨rfl, hb⟩
   go_wp2_with fail
   go_returns
   exact ⟨by rw [HF.out]; rfl, B0.out.trans (hb.mono B0.out.size)⟩
 | true =>
   have HF : Hid (kEX x = textS x) := hJ (by unfold kEX; rw [hv]; rfl)
   obtain ⟨hl1, hl2, _⟩ := kAT hv; have hjt := joinT_size HZ.out hl1; have hjl := joinL_size (s := x) hl2; have htr := kFJ HZ.out.2.1
   have HH : Hid (headS x = (((⟨#[40]⟩ : Str) ++ kD2 (x.params.map kF2) ⟨#[44, 32]⟩) ++ ⟨#[41, 32, 45, 62, 32]⟩) ++ kF2 x.result) := hJ rfl
   have HW : Hid (whereS x = (⟨#[32, 119, 104, 101, 114, 101, 32]⟩ : Str) ++ kD2 (x.wh.map kA9) ⟨#[44, 32]⟩) := hJ rfl
   have HX0 : Hid (x.wh.length = 0 → textS x = headS x) := hJ (fun q => by unfold textS; rw [if_neg (by omega)])
   have HX1 : Hid (0 < x.wh.length → textS x = headS x ++ whereS x) := hJ (fun q => by unfold textS; rw [if_pos q])
   rw [hv] at HC; clear HV hv
   go_enter func134, ntmps134
   go_wp2_with fail
   refine (HC.out).mono ?_
   rintro e w1 ⟨rfl, hb⟩
   have HW1 : Hid (Below w.heap.size w w1) := hJ (B0.out.trans (hb.mono B0.out.size))
   have g0 := kAC xa0 _ hb; have g1 := kAC xa1 _ hb; have g2 := kAC xa2 _ hb; have g3 := kAC xa3 _ hb; have g4 := kAC xa4 _ hb; clear xa0 xa1 xa2 xa3 xa4 hb HC B0 hW0
   have HCj := hJ (fun t9 : Later w1 => joinedTyp x.params ap _ cp t9.w (HPs.out.below (HW1.out.trans (t9.b.mono HW1.out.size))) 182 (kBM func182 rfl rfl) kF2 (fun W y cs hW hm hr => types_text hr (HZ.out.1 y hm) (HE.out W ((HW1.out.trans (t9.b.mono HW1.out.size)).trans (hW.mono (HW1.out.trans (t9.b.mono HW1.out.size)).size)))) (fun y hy => Nat.le_trans (kFJ (HZ.out.1 y hy)) (by decide)) (by omega))
   have HCt := hJ (fun t9 : Later w1 => types_text (x := x.result) (cs := [.string x.result.elem, .string x.result.shape.row, .slice at_ x.result.shape.dims.length ct]) (S := S) (w := t9.w) ⟨_, rfl, at_, ct, rfl, HTs.out.below (HW1.out.trans (t9.b.mono HW1.out.size))⟩ HZ.out.2.1 (HE.out _ (HW1.out.trans (t9.b.mono HW1.out.size))))
   have HCl := hJ (fun (W : World) (hW : Below w1.heap.size w1 W) => joinedLin x.wh aq _ cq W (HQs.out.below (HW1.out.trans (hW.mono HW1.out.size))) 184 (kBM func184 rfl rfl) kA9 (fun W' y cs hW' hm hr => kFC hr (HZ.out.2.2 y hm) (HE.out W' ((HW1.out.trans (hW.mono HW1.out.size)).trans (hW'.mono (HW1.out.trans (hW.mono HW1.out.size)).size)))) (fun y hy => Nat.le_trans (kF9 y) (by decide)) (by omega))
   generalize kD2 (x.params.map kF2) ⟨#[44, 32]⟩ = jt at *
   generalize kD2 (x.wh.map kA9) ⟨#[44, 32]⟩ = jl at *
   generalize kF2 x.result = tr at *
   have hs1 : ((⟨#[40]⟩ : Str) ++ jt).size ≤ 2000001 := by rw [ByteArray.size_append]; show 1 + _ ≤ _; omega
   have hs2 : (((⟨#[40]⟩ : Str) ++ jt) ++ (⟨#[41, 32, 45, 62, 32]⟩ : Str)).size ≤ 2000006 := by rw [ByteArray.size_append]; show _ + 5 ≤ _; omega
   have hs3 : ((((⟨#[40]⟩ : Str) ++ jt) ++ (⟨#[41, 32, 45, 62, 32]⟩ : Str)) ++ tr).size ≤ 2110006 := by rw [ByteArray.size_append]; omega
   have hs4 : ((⟨#[32, 119, 104, 101, 114, 101, 32]⟩ : Str) ++ jl).size ≤ 200007 := by rw [ByteArray.size_append]; show 7 + _ ≤ _; omega
   have G0 := Later.cell g0; have G1 := Later.cell g1; have G2 := Later.cell g2; have G3 := Later.cell g3; have G4 := Later.cell g4
   go_wp2_with fail
   refine kAB (by kernel_rfl) (by kernel_rfl) ?_
   repeat (go_big_quiet_step (first | fail | exact Later.call (HCj.out _) | exact Later.call (HCt.out _)))
   refine wpQuiet_nil ?_
   rintro _ ⟨t9, rfl⟩
   have HB9 := hJ t9.b; have y4 := G4 t9
   generalize t9.w = w2 at *
   clear G0 G1 G2 G3 G4 g0 g1 g2 g3 g4
   generalize hnw : x.wh.length = nw at *
   by_cases hw : nw = 0
   · have HF2 : Hid (kEX x = headS x) := hJ (by rw [HF.out, HX0.out hw])
     have hw2 : ¬((0 : Int) < (nw : Int)) := by omega
     clear hw hnw
     go_wp2_with fail
     go_returns
     exact ⟨by rw [HF2.out, HH.out]; rfl, HW1.out.trans (HB9.out.mono HW1.out.size)⟩
   · have HF2 : Hid (kEX x = headS x ++ whereS x) := hJ (by rw [HF.out, HX1.out (by omega)])
     have hw2 : (0 : Int) < (nw : Int) := by omega
     have HC3 := hJ (HCl.out _ HB9.out); clear hw hnw
     go_wp2_with fail
     refine HC3.out.mono ?_
     rintro e w3 ⟨rfl, hb3⟩
     go_wp2_with fail
     go_returns
     exact ⟨by rw [HF2.out, HH.out, HW.out]; rfl, HW1.out.trans ((HB9.out.trans (hb3.mono HB9.out.size)).mono HW1.out.size)⟩
theorem kCJ {i : Ifc} {k : Nat} (hk : k < i.entries.length) (h : entAt i.entries k = false) : kAS i = false := by
 unfold kAS
 rw [kD1 hk h]; rfl
theorem kGI {i : Ifc} (h : ∀ k, k < i.entries.length → entAt i.entries k = true) : kAS i = (kA0 i.module_ && decide (i.entries.length ≤ 60)) := by
 unfold kAS
 rw [kCH h]; rfl
theorem kB9 {S : Blk} {x : Ifc} {a : Option Addr} {c : Nat} {w : World} (hs : Sl REnt S w a x.entries.length c x.entries) (hz : ∀ e ∈ x.entries, szS e.scheme ∧ e.name.size ≤ 281474976710656) (hmz : x.module_.size ≤ 281474976710656) (E : Env w) :
 Calls Tryz.prog 13 #[.agg #[.string x.module_, .slice a x.entries.length c]] w fun e w' => e = .returned (.bool (kAS x)) ∧ Below w.heap.size w w' := by
 have hm := hs.small; have HZ := hJ hz; have H := hJ hs; have EE := hJ E; clear hz hs E
 generalize hl1 : x.entries.length = n at *
 have HL := hJ hl1; clear hl1; obtain ⟨B0, ya, hW0⟩ := box1 w 29 [.string x.module_, .slice a n c]; have xa0 := box0 ya 0 _ rfl; have xa1 := box0 ya 1 _ rfl; clear ya
 go_enter func13, ntmps13
 go_wp2_with fail
 generalize (w.alloc (.cells #[.string x.module_, .slice a n c] 29)) = W at *
 have H0 := hJ (H.out.below B0.out); have E0 := hJ (EE.out.below B0.out)
 go_loopw [8] (fun i wr => ∃ k : Nat, k ≤ n ∧ i = .int .i64 k ∧ Hid (∀ j, j < k → entAt x.entries j = true) ∧ Below W.heap.size W wr) (fun i _ => n - (intOf i).toNat)
 case atStart => exact ⟨0, Nat.zero_le _, rfl, fun j hj => absurd hj (by omega), Below.refl _ _⟩
 case round =>
  obtain ⟨k, hk, rfl, HT, hB⟩ := hrel
  by_cases hlt : k < n
  · obtain ⟨b, off, rfl, hbW, _⟩ := H0.out.form k hlt
    have HR := hJ (H0.out.below hB); obtain ⟨_, _, _, hr, ⟨⟨ap, cp, rfl, _⟩, ⟨at_, ct, rfl, _⟩, ⟨aq, cq, rfl, _⟩⟩, c0, c1, c2, c3, c4, c5⟩ := HR.out.ent k hlt; obtain ⟨_, e1, hr⟩ := hr
    cases e1
    have HK : Hid (k < x.entries.length) := hJ (by rw [HL.out]; exact hlt)
    have HTK : Hid (entAt x.entries k = (kA0 (x.entries.getD k default).name && (kAJ (x.entries.getD k default).scheme && (k == 0 || slt (x.entries.getD (k - 1) default).name (x.entries.getD k default).name)))) := hJ rfl
    have hzt := HZ.out _ (kAI HK.out); have HRd := hJ hr; clear hr
    generalize x.entries.getD k default = t at *
    have hzn := hzt.2; have HZs := hJ hzt.1; clear hzt
    go_wp2_with fail
    have hB2 : Below W.heap.size W (wr.alloc (.cells #[.string t.name, .slice ap t.scheme.params.length cp, .string t.scheme.result.elem, .string t.scheme.result.shape.row, .slice at_ t.scheme.result.shape.dims.length ct, .slice aq t.scheme.wh.length cq] 43)) := hB.alloc hB.size _
    have hb2 : Below wr.heap.size wr (wr.alloc (.cells #[.string t.name, .slice ap t.scheme.params.length cp, .string t.scheme.result.elem, .string t.scheme.result.shape.row, .slice at_ t.scheme.result.shape.dims.length ct, .slice aq t.scheme.wh.length cq] 43)) := (Below.refl _ _).alloc (Nat.le_refl _) _
    have hbx := Bx.fresh wr 43 [.string t.name, .slice ap t.scheme.params.length cp, .string t.scheme.result.elem, .string t.scheme.result.shape.row, .slice at_ t.scheme.result.shape.dims.length ct, .slice aq t.scheme.wh.length cq]; have v0 := hbx.cell 0 _ rfl; have v1 := hbx.cell 1 _ rfl; have v2 := hbx.cell 2 _ rfl; have v3 := hbx.cell 3 _ rfl; have v4 := hbx.cell 4 _ rfl; have v5 := hbx.cell 5 _ rfl; have hx1 := kAC xa1 _ hB2; have HRd := hJ (RSch.below HRd.out hb2); clear c0 c1 c2 c3 c4 c5 xa0 xa1 hbx hb2
    generalize (wr.alloc (.cells #[.string t.name, .slice ap t.scheme.params.length cp, .string t.scheme.result.elem, .string t.scheme.result.shape.row, .slice at_ t.scheme.result.shape.dims.length ct, .slice aq t.scheme.wh.length cq] 43)) = w2 at *
    have HB2 := hJ hB2; have E2 := hJ (E0.out.below HB2.out); clear hB hB2
    have HC := hJ (fun t9 : Later w2 => kBX (RSch.below HRd.out t9.b) HZs.out (E2.out.at_ t9))
    have v0 := Later.cell v0; have v1 := Later.cell v1; have v2 := Later.cell v2; have v3 := Later.cell v3; have v4 := Later.cell v4; have v5 := Later.cell v5; have hx1 := Later.cell hx1
    cases hnm : kA0 t.name with
    | false =>
      have HF : Hid (kAS x = false) := hJ (kCJ HK.out (by rw [HTK.out, hnm]; rfl))
      refine kAB (by kernel_rfl) (by kernel_rfl) ?_
      repeat (go_big_quiet_step (first | fail | exact Later.same (kBU _ _ hzn) | exact Later.call (HC.out _)))
      refine wpQuiet_nil ?_
      rintro _ ⟨t9, rfl⟩
      go_wp2_with fail
      go_ret
      exact ⟨by rw [HF.out]; rfl, B0.out.trans ((HB2.out.trans (t9.b.mono HB2.out.size)).mono B0.out.size)⟩
    | true =>
      cases hv : kAJ t.scheme with
      | false =>
        have HF : Hid (kAS x = false) := hJ (kCJ HK.out (by rw [HTK.out, hnm, hv]; rfl))
        refine kAB (by kernel_rfl) (by kernel_rfl) ?_
        repeat (go_big_quiet_step (first | fail | exact Later.same (kBU _ _ hzn) | exact Later.call (HC.out _)))
        refine wpQuiet_nil ?_
        rintro _ ⟨t9, rfl⟩
        go_wp2_with fail
        go_ret
        exact ⟨by rw [HF.out]; rfl, B0.out.trans ((HB2.out.trans (t9.b.mono HB2.out.size)).mono B0.out.size)⟩
      | true =>
        cases k with
        | zero =>
          have HO : Hid (entAt x.entries 0 = true) := hJ (by rw [HTK.out, hnm, hv]; rfl)
          refine kAB (by kernel_rfl) (by kernel_rfl) ?_
          repeat (go_big_quiet_step (first | fail | exact Later.same (kBU _ _ hzn) | exact Later.call (HC.out _)))
          refine wpQuiet_nil ?_
          rintro _ ⟨t9, rfl⟩
          go_wp2_with fail
          go_roundw
          case rel => exact ⟨1, by omega, by go_num, hJ (fun j hj => (by omega : j = 0) ▸ HO.out), HB2.out.trans (t9.b.mono HB2.out.size)⟩
          case measure => simp [intOf]; omega
        | succ k =>
          obtain ⟨_, _, _, _, _, hp, _⟩ := (H0.out.below HB2.out).ent k (by omega)
          have hp := Later.cell hp
          have hk0 : (0 : Int) < ((k + 1 : Nat) : Int) := by omega
          have hki : (((k + 1 : Nat) : Int) - 1) = (k : Int) := by omega
          simp only [Nat.add_sub_cancel] at HTK
          generalize x.entries.getD k default = p at *
          by_cases ho : Op.bytesLess p.name.toList t.name.toList = true
          · have HO : Hid (entAt x.entries (k + 1) = true) := hJ (by rw [HTK.out, hnm, hv]; simpa [slt] using ho)
            refine kAB (by kernel_rfl) (by kernel_rfl) ?_
            repeat (go_big_quiet_step (first | fail | exact Later.same (kBU _ _ hzn) | exact Later.call (HC.out _)))
            refine wpQuiet_nil ?_
            rintro _ ⟨t9, rfl⟩
            go_wp2_with fail
            go_roundw
            case rel => exact ⟨k + 1 + 1, by omega, by go_num, hJ (upto HT.out HO.out), HB2.out.trans (t9.b.mono HB2.out.size)⟩
            case measure => simp [intOf]; omega
          · have ho : Op.bytesLess p.name.toList t.name.toList = false := by simpa using ho
            have HF : Hid (kAS x = false) := hJ (kCJ HK.out (by rw [HTK.out, hnm, hv]; simpa [slt] using ho))
            refine kAB (by kernel_rfl) (by kernel_rfl) ?_
            repeat (go_big_quiet_step (first | fail | exact Later.same (kBU _ _ hzn) | exact Later.call (HC.out _)))
            refine wpQuiet_nil ?_
            rintro _ ⟨t9, rfl⟩
            go_wp2_with fail
            go_ret
            exact ⟨by rw [HF.out]; rfl, B0.out.trans ((HB2.out.trans (t9.b.mono HB2.out.size)).mono B0.out.size)⟩
  · obtain rfl : k = n := by omega
    have HV : Hid (kAS x = (kA0 x.module_ && decide (k ≤ 60))) := hJ (by rw [kGI (fun j hj => HT.out j (by rw [HL.out] at hj; exact hj)), HL.out])
    have hx0 := kAC xa0 _ hB; have hx1 := kAC xa1 _ hB
    cases hs : kA0 x.module_ with
    | true =>
      go_wp2_with fail
      refine (kBU _ _ hmz).mono ?_
      rintro e w5 ⟨rfl, rfl⟩
      go_wp2_with fail
      go_ret
      exact ⟨by rw [HV.out, hs, Bool.true_and, ← decide_eq_decide.2 (show ((k : Int) ≤ 60 ↔ k ≤ 60) by omega)]; rfl, B0.out.trans (hB.mono B0.out.size)⟩
    | false =>
      go_wp2_with fail
      refine (kBU _ _ hmz).mono ?_
      rintro e w5 ⟨rfl, rfl⟩
      go_wp2_with fail
      go_ret
      exact ⟨by rw [HV.out, hs]; rfl, B0.out.trans (hB.mono B0.out.size)⟩
def lineE (x : Ent) : Str := (x.name ++ ⟨#[58, 32]⟩) ++ kEX x.scheme
def capI (m : Str) : Str := (⟨#[105, 110, 116, 101, 114, 102, 97, 99, 101, 32]⟩ : Str) ++ m
def textI (i : Ifc) : Str := kD2 ((capI i.module_ :: i.entries.map lineE) ++ [⟨#[]⟩]) ⟨#[10]⟩
def printI (i : Ifc) : Str := if kAS i then textI i else ⟨#[]⟩
def tame (x : Ent) : Prop := szS x.scheme ∧ x.name.size ≤ 100000
theorem lineE_size {x : Ent} (h : tame x) : (lineE x).size ≤ 4000000 := by
 have h1 := printS_size h.1; have h2 := h.2
 unfold lineE
 rw [ByteArray.size_append, ByteArray.size_append]
 show _ + 2 + _ ≤ _
 omega
theorem Own.one {E : TypeId} {S : Blk} {w : World} {g base : Nat} {s : Str} (h : w.heap[g]? = some (.cells #[.string s] E (0, 0))) (hb : base ≤ g) : Own RStr E S w base (.slice (some ⟨g, 0, none⟩) 1 1) [s] :=
 ⟨⟨[[.string s]], rfl, ⟨by simp [RStr], .inr ⟨g, 1, #[.string s], rfl, hb, h, Nat.le_refl _, by unfold maxLen; omega, by simp [RStr], by simp [RStr]⟩⟩, fun i x hx => by
   cases i with
   | zero => simp at hx; subst hx; exact ⟨_, rfl, rfl⟩
   | succ i => simp at hx⟩⟩
theorem signature_line {S : Blk} {x : Ent} {cs : List Value} {w : World} (h : REnt.rd S w cs x) (hz : tame x) (E : Env w) :
 Calls Tryz.prog 89 #[.agg cs.toArray] w fun e w' => e = .returned (.string (lineE x)) ∧ Below w.heap.size w w' := by
 obtain ⟨_, rfl, hr⟩ := h; have hps := printS_size hz.1; have hnz := hz.2; obtain ⟨p, t, q, rfl, ⟨ap, cp, rfl, hp⟩, ⟨at_, ct, rfl, ht⟩, ⟨aq, cq, rfl, hq⟩⟩ := hr
 have HX := hJ (fun (W : World) (hW : Below w.heap.size w W) => types_PrintScheme (S := S) (x := x.scheme) (w := W) (cs := [.slice ap x.scheme.params.length cp, .string x.scheme.result.elem, .string x.scheme.result.shape.row, .slice at_ x.scheme.result.shape.dims.length ct, .slice aq x.scheme.wh.length cq]) ⟨_, _, _, rfl, ⟨ap, cp, rfl, hp.below hW⟩, ⟨at_, ct, rfl, ht.below hW⟩, ⟨aq, cq, rfl, hq.below hW⟩⟩ hz.1 (E.below hW))
 have HT : Hid (lineE x = (x.name ++ ⟨#[58, 32]⟩) ++ kEX x.scheme) := hJ rfl
 clear hp ht hq hz E; obtain ⟨B0, ya, hW0⟩ := box1 w 43 [.string x.name, .slice ap x.scheme.params.length cp, .string x.scheme.result.elem, .string x.scheme.result.shape.row, .slice at_ x.scheme.result.shape.dims.length ct, .slice aq x.scheme.wh.length cq]; have xa0 := box0 ya 0 _ rfl; have xa1 := box0 ya 1 _ rfl; have xa2 := box0 ya 2 _ rfl; have xa3 := box0 ya 3 _ rfl; have xa4 := box0 ya 4 _ rfl; have xa5 := box0 ya 5 _ rfl; clear ya; have HC := hJ (HX.out _ B0.out)
 generalize kEX x.scheme = ps at *
 generalize (if kAJ x.scheme then (0 : Int) else 1) = ev at *
 have hs1 : (x.name ++ (⟨#[58, 32]⟩ : Str)).size ≤ 100002 := by rw [ByteArray.size_append]; show _ + 2 ≤ _; omega
 go_enter func89, ntmps89
 go_wp2_with fail
 refine (HC.out).mono ?_
 rintro e w1 ⟨rfl, hb⟩
 have g0 := kAC xa0 _ hb
 go_wp2_with fail
 go_ret
 exact ⟨by rw [HT.out]; rfl, B0.out.trans (hb.mono B0.out.size)⟩
theorem signature_lines {S : Blk} {w : World} {base : Nat} {v : Value} {l : List Str} (h : Own RStr 9 S w base v l) (hbase : base ≤ w.heap.size) (hn : l.length ≤ 100) (hz : ∀ s ∈ l, s.size ≤ 10000000) :
 Calls Tryz.prog 90 #[v] w fun e w' => e = .returned (.string (kD2 (l ++ [⟨#[]⟩]) ⟨#[10]⟩)) ∧ Below base w w' := by
 have HO := hJ h; have HZ := hJ hz; obtain ⟨a, m, c, rfl⟩ := h.shape; clear h hz
 go_enter func90, ntmps90
 go_wp2_with (at_builtin; refine kA8 kD3 rfl _ _ rfl base _ _ rfl (HO.out.alloc _) _ (⟨#[]⟩ : Str) [.string ⟨#[]⟩] rfl rfl (kA4 9 (by (simp only [kAG, kAE, Array.getElem?_push, Array.size_push]; simp))) (by omega) (by unfold maxLen; omega) (by simp; omega) ?_; intro v9 w9 hown9 hb9 hk9; obtain ⟨a9, m9, c9, rfl⟩ := hown9.shape; obtain ⟨_, _, q9, hsl⟩ := hown9.sl; rw [Value.slice.injEq] at q9; obtain ⟨rfl, q9, rfl⟩ := q9; rw [← q9] at hsl; have HB9 := hJ (((Below.refl _ _).alloc hbase _).trans hb9); have HC := hJ (kC3 hsl ⟨#[10]⟩ (by rw [q9, List.length_append]; show _ + 1 ≤ _; omega) (fun s hs => (List.mem_append.1 hs).elim (HZ.out s) (fun q => by rw [List.mem_singleton] at q; subst q; exact Nat.zero_le _)) (by decide)); clear hsl hown9 hb9 hk9 q9)
 refine HC.out.mono ?_
 rintro e w3 ⟨rfl, hb3⟩
 go_wp2_with fail
 go_ret
 exact ⟨rfl, HB9.out.trans (hb3.mono (Nat.le_trans hbase HB9.out.size))⟩
theorem signature_text {S : Blk} {x : Ifc} {a : Option Addr} {n c : Nat} {w : World} (hs : Sl REnt S w a n c x.entries) (hz : ∀ e ∈ x.entries, tame e) (hmz : x.module_.size ≤ 100000) (hn : n ≤ 60) (E : Env w) :
 Calls Tryz.prog 42 #[.agg #[.string x.module_, .slice a n c]] w fun e w' => e = .returned (.string (textI x)) ∧ Below w.heap.size w w' := by
 have hm := hs.small; have HZ := hJ hz; have HL := hJ hs.len; have HS0 := hJ hs
 have HE := hJ (fun (W : World) (hW : Below w.heap.size w W) => E.below hW)
 have HT : Hid (textI x = kD2 ((capI x.module_ :: x.entries.map lineE) ++ [⟨#[]⟩]) ⟨#[10]⟩) := hJ rfl
 have HCp : Hid (capI x.module_ = (⟨#[105, 110, 116, 101, 114, 102, 97, 99, 101, 32]⟩ : Str) ++ x.module_) := hJ rfl
 have hcz : (capI x.module_).size ≤ 100010 := by unfold capI; rw [ByteArray.size_append]; show 10 + _ ≤ _; omega
 have HCz := hJ hcz; clear hs E hz hcz; obtain ⟨B0, ya, hW0⟩ := box1 w 29 [.string x.module_, .slice a n c]; have xa0 := box0 ya 0 _ rfl; have xa1 := box0 ya 1 _ rfl; clear ya; have HS := hJ (HS0.out.below B0.out)
 have HEW := hJ (fun (W' : World) (hW : Below (w.alloc (.cells #[.string x.module_, .slice a n c] 29)).heap.size (w.alloc (.cells #[.string x.module_, .slice a n c] 29)) W') => HE.out W' (B0.out.trans (hW.mono B0.out.size)))
 clear HS0 HE
 go_enter func42, ntmps42
 go_wp2_with fail
 generalize (w.alloc (.cells #[.string x.module_, .slice a n c] 29)) = W at *
 rw [← HCp.out]
 generalize capI x.module_ = cm at *
 have HO1 : Hid (Own RStr 9 (fun _ => False) (W.alloc (.cells #[.string cm] 9)) W.heap.size (.slice (some ⟨w.heap.size + 1, 0, none⟩) 1 1) (cm :: (x.entries.take 0).map lineE)) := hJ (by rw [← hW0]; exact Own.one (by (simp only [kAG, kAE, Array.getElem?_push, Array.size_push]; simp)) (Nat.le_refl _))
 go_loopw [3, 13] (fun v i wr => ∃ k : Nat, k ≤ n ∧ i = .int .i64 k ∧ Hid (Own RStr 9 (fun _ => False) wr W.heap.size v (cm :: (x.entries.take k).map lineE)) ∧ Below W.heap.size W wr) (fun _ i _ => n - (intOf i).toNat)
 case atStart => exact ⟨0, Nat.zero_le _, rfl, HO1, (Below.refl _ _).alloc (Nat.le_refl _) _⟩
 case round =>
  obtain ⟨k, hk, rfl, HO, hB⟩ := hrel; have hsz := hB.size
  by_cases hlt : k < n
  · obtain ⟨b, off, rfl, hbW, _⟩ := HS.out.form k hlt
    obtain ⟨_, _, _, hr, ⟨⟨ap, cp, rfl, _⟩, ⟨at_, ct, rfl, _⟩, ⟨aq, cq, rfl, _⟩⟩, c0, c1, c2, c3, c4, c5⟩ := (HS.out.below hB).ent k hlt
    have hkl : k < x.entries.length := by rw [HL.out]; exact hlt
    have HNx := hJ (kCR lineE hkl); have HZk := hJ (HZ.out _ (kAI hkl)); have HR := hJ hr
    have HLen : Hid ((cm :: (x.entries.take k).map lineE).length ≤ 61) := hJ (by rw [List.length_cons, List.length_map, List.length_take]; omega)
    clear hr hkl
    generalize x.entries.getD k default = y at *
    have HA : Hid (Below wr.heap.size wr (wr.alloc (.cells #[.string y.name, .slice ap y.scheme.params.length cp, .string y.scheme.result.elem, .string y.scheme.result.shape.row, .slice at_ y.scheme.result.shape.dims.length ct, .slice aq y.scheme.wh.length cq] 43))) := hJ ((Below.refl _ _).alloc (Nat.le_refl _) _)
    have HC := hJ (signature_line (REnt.below HR.out HA.out) HZk.out (HEW.out _ (hB.trans (HA.out.mono hB.size))))
    generalize lineE y = o at *
    obtain ⟨va, vm, vc, rfl⟩ := HO.out.shape
    go_wp2_with fail
    refine HC.out.mono ?_
    rintro e w4 ⟨rfl, hb4⟩
    have HB4 := hJ (HA.out.trans (hb4.mono HA.out.size)); have hz4 := HB4.out.size
    go_wp2_with (at_builtin; refine kA8 kD3 rfl _ _ rfl W.heap.size _ _ rfl ((HO.out.below HB4.out).alloc _) _ o [.string o] rfl rfl (kA4 9 (by (simp only [kAG, kAE, Array.getElem?_push, Array.size_push]; simp))) (by have := HLen.out; omega) (by have := HLen.out; unfold maxLen; omega) (by simp; omega) ?_; intro v9 w9 hown9 hb9 hk9; obtain ⟨a9, m9, c9, rfl⟩ := hown9.shape)
    go_roundw
    case rel => exact ⟨k + 1, by omega, by go_num, hJ (by rw [HNx.out, ← List.cons_append]; exact hown9), (hB.trans ((HB4.out.alloc HB4.out.size _).mono hB.size)).trans hb9⟩
    case measure => simp [intOf]; omega
  · have HAll : Hid (cm :: (x.entries.take k).map lineE = cm :: x.entries.map lineE) := hJ (by rw [List.take_of_length_le (by rw [HL.out]; omega)])
    rw [HAll.out] at HO
    have HC := hJ (signature_lines HO.out hB.size (by rw [List.length_cons, List.length_map, HL.out]; omega) (fun s hs => by
     rcases List.mem_cons.1 hs with q | q
     · subst q; exact Nat.le_trans HCz.out (by decide)
     · obtain ⟨y, hy, rfl⟩ := List.mem_map.1 q
       exact Nat.le_trans (lineE_size (HZ.out y hy)) (by decide)))
    obtain ⟨va, vm, vc, rfl⟩ := HO.out.shape
    go_wp2_with fail
    refine HC.out.mono ?_
    rintro e w4 ⟨rfl, hb4⟩
    go_wp2_with fail
    go_ret
    exact ⟨by rw [HT.out]; rfl, B0.out.trans ((hB.trans hb4).mono B0.out.size)⟩
theorem signature_Print {S : Blk} {x : Ifc} {a : Option Addr} {c : Nat} {w : World} (hs : Sl REnt S w a x.entries.length c x.entries) (hz : ∀ e ∈ x.entries, tame e) (hmz : x.module_.size ≤ 100000) (E : Env w) :
 Calls Tryz.prog 21 #[.agg #[.string x.module_, .slice a x.entries.length c]] w fun e w' => e = .returned (.tuple #[.string (printI x), .int .i64 (if kAS x then 0 else 1)]) ∧ Below w.heap.size w w' := by
 have HV := hJ (fun (W : World) (hW : Below w.heap.size w W) => kB9 (hs.below hW) (fun e he => ⟨(hz e he).1, Nat.le_trans (hz e he).2 (by decide)⟩) (by omega) (E.below hW))
 have HX := hJ (fun (hv : kAS x = true) (W : World) (hW : Below w.heap.size w W) => signature_text (hs.below hW) hz hmz (by
  unfold kAS at hv
  rw [Bool.and_eq_true, Bool.and_eq_true, decide_eq_true_eq] at hv
  exact hv.2.2) (E.below hW))
 clear hs E hz
 generalize x.entries.length = n at *
 obtain ⟨B0, ya, hW0⟩ := box1 w 29 [.string x.module_, .slice a n c]; have xa0 := box0 ya 0 _ rfl; have xa1 := box0 ya 1 _ rfl; clear ya; have HC := hJ (HV.out _ B0.out)
 cases hv : kAS x with
 | false =>
   have HF : Hid (printI x = ⟨#[]⟩) := hJ (by unfold printI; rw [hv]; rfl)
   rw [hv] at HC; clear HV HX
   go_enter func21, ntmps21
   go_wp2_with fail
   refine (HC.out).mono ?_
   rintro e w1 ⟨rfl, hb⟩
   go_wp2_with fail
   go_returns
   exact ⟨by rw [HF.out]; rfl, B0.out.trans (hb.mono B0.out.size)⟩
 | true =>
   have HF : Hid (printI x = textI x) := hJ (by unfold printI; rw [hv]; rfl)
   have HX2 := hJ (HX.out hv); rw [hv] at HC; clear HV HX
   go_enter func21, ntmps21
   go_wp2_with fail
   refine (HC.out).mono ?_
   rintro e w1 ⟨rfl, hb⟩
   have HW1 := hJ (B0.out.trans (hb.mono B0.out.size)); have g0 := kAC xa0 _ hb; have g1 := kAC xa1 _ hb
   have hlw : w.heap.size < w1.heap.size := kCG g1
   have HC2 := hJ (HX2.out _ HW1.out)
   go_wp2_with fail
   refine (HC2.out).mono ?_
   rintro e w2 ⟨rfl, hb2⟩
   go_wp2_with fail
   go_returns
   exact ⟨by rw [HF.out]; rfl, HW1.out.trans (hb2.mono HW1.out.size)⟩
def kS : Str := ⟨#[107]⟩
def exS : Sch := ⟨[⟨⟨#[65]⟩, ⟨⟨#[]⟩, [varL kS]⟩⟩], ⟨⟨#[65]⟩, ⟨⟨#[]⟩, []⟩⟩, []⟩
def exE : Ent := ⟨⟨#[102]⟩, exS⟩
def n1S : Str := ⟨#[110, 49]⟩
def a1S : Str := ⟨#[65, 49]⟩
def exC : Sch := ⟨[⟨a1S, ⟨⟨#[]⟩, [varL n1S]⟩⟩], ⟨a1S, ⟨⟨#[]⟩, []⟩⟩, []⟩
def exI : Ifc := ⟨⟨#[109]⟩, [⟨⟨#[102]⟩, exC⟩]⟩
theorem ex_name1 : kA0 ⟨#[109]⟩ = true := by kernel_rfl
theorem ex_name2 : kA0 ⟨#[102]⟩ = true := by kernel_rfl
theorem ex_valid : kAJ exS = true := by kernel_rfl
theorem ex_ok : kEW exS = true := by kernel_rfl
theorem ex_can : can exS = exC := by kernel_rfl
theorem ex_print : printI exI = ⟨#[105, 110, 116, 101, 114, 102, 97, 99, 101, 32, 109, 10, 102, 58, 32, 40, 91, 110, 49, 93, 65, 49, 41, 32, 45, 62, 32, 65, 49, 10]⟩ := by kernel_rfl
theorem ex_validI : kAS exI = true := by kernel_rfl
theorem says_ex {A : Ifc} {ev : Int} (h : Says ⟨#[109]⟩ [exE] A ev) : ev = 0 ∧ A = exI := by
 have hok : mkOk ⟨#[109]⟩ [exE] = true := by
  unfold mkOk goodE
  rw [ex_name1]
  show (([exE] : List Ent).all fun x => kEW x.scheme && kA0 x.name) = true
  show ((kEW exS && kA0 ⟨#[102]⟩) && true) = true
  rw [ex_ok, ex_name2]; rfl
 rcases h with ⟨h, _⟩ | ⟨_, h, _⟩ | ⟨_, _, he, m, hp, _, rfl⟩
 · rw [hok] at h; cases h
 · exact absurd (List.pairwise_singleton _ _) h
 · refine ⟨he, ?_⟩
   rw [List.perm_singleton.1 hp]
   show (⟨⟨#[109]⟩, [⟨⟨#[102]⟩, can exS⟩]⟩ : Ifc) = exI
   rw [ex_can]; rfl
theorem law57_awake (w : World) (E : Env w) : Calls Tryz.prog 5 #[] w fun e w' => e = .returned (.bool true) ∧ Below w.heap.size w w' := by
 obtain ⟨W, hW⟩ : ∃ W, (((((w.alloc (.cells #[.string ⟨#[107]⟩, .int .i64 1] 62)).alloc (.cells #[.int .i64 0, .slice (some ⟨w.heap.size, 0, none⟩) 1 1] 65)).alloc (.cells #[.int .i64 0, .slice (some ⟨w.heap.size, 0, none⟩) 1 1] 65)).alloc (.cells #[.string ⟨#[65]⟩, .string ⟨#[]⟩, .slice (some ⟨w.heap.size + 2, 0, none⟩) 1 1] 39)).alloc (.cells #[.slice (some ⟨w.heap.size + 3, 0, none⟩) 1 1, .string ⟨#[65]⟩, .string ⟨#[]⟩, .slice none 0 0, .slice none 0 0] 41)).alloc (.cells #[.string ⟨#[102]⟩, .slice (some ⟨w.heap.size + 3, 0, none⟩) 1 1, .string ⟨#[65]⟩, .string ⟨#[]⟩, .slice none 0 0, .slice none 0 0] 43) = W := ⟨_, rfl⟩
 have b0 : W.heap[w.heap.size]? = some (.cells #[.string ⟨#[107]⟩, .int .i64 1] 62 (0, 0)) := by rw [← hW]; (simp only [kAG, kAE, Array.getElem?_push, Array.size_push]; simp); repeat rw [if_neg (by omega)]
 have b2 : W.heap[w.heap.size + 1 + 1]? = some (.cells #[.int .i64 0, .slice (some ⟨w.heap.size, 0, none⟩) 1 1] 65 (0, 0)) := by rw [← hW]; (simp only [kAG, kAE, Array.getElem?_push, Array.size_push]; simp)
 have b3 : W.heap[w.heap.size + 1 + 1 + 1]? = some (.cells #[.string ⟨#[65]⟩, .string ⟨#[]⟩, .slice (some ⟨w.heap.size + 1 + 1, 0, none⟩) 1 1] 39 (0, 0)) := by rw [← hW]; (simp only [kAG, kAE, Array.getElem?_push, Array.size_push]; simp)
 have b5 : W.heap[w.heap.size + 1 + 1 + 1 + 1 + 1]? = some (.cells #[.string ⟨#[102]⟩, .slice (some ⟨w.heap.size + 1 + 1 + 1, 0, none⟩) 1 1, .string ⟨#[65]⟩, .string ⟨#[]⟩, .slice none 0 0, .slice none 0 0] 43 (0, 0)) := by rw [← hW]; (simp only [kAG, kAE, Array.getElem?_push, Array.size_push]; simp)
 have hsz : W.heap.size = w.heap.size + 6 := by rw [← hW]; simp
 have hBW : Below w.heap.size w W := by rw [← hW]; exact ((((((Below.refl _ _).alloc (by simp <;> omega) _).alloc (by simp <;> omega) _).alloc (by simp <;> omega) _).alloc (by simp <;> omega) _).alloc (by simp <;> omega) _).alloc (by simp <;> omega) _
 have s0 : Sl kBP All W (some ⟨w.heap.size, 0, none⟩) 1 1 [⟨kS, 1⟩] := Sl.single (cs := [.string kS, .int .i64 1]) b0 rfl trivial
 have s2 : Sl RLin All W (some ⟨w.heap.size + 1 + 1, 0, none⟩) 1 1 [varL kS] := Sl.single (cs := [.int .i64 0, .slice (some ⟨w.heap.size, 0, none⟩) 1 1]) b2 ⟨_, rfl, _, _, rfl, s0⟩ trivial
 have s3 : Sl RTyp All W (some ⟨w.heap.size + 1 + 1 + 1, 0, none⟩) 1 1 [⟨⟨#[65]⟩, ⟨⟨#[]⟩, [varL kS]⟩⟩] := Sl.single (cs := [.string ⟨#[65]⟩, .string ⟨#[]⟩, .slice (some ⟨w.heap.size + 1 + 1, 0, none⟩) 1 1]) b3 ⟨_, rfl, _, _, rfl, s2⟩ trivial
 have s5 : Sl REnt All W (some ⟨w.heap.size + 1 + 1 + 1 + 1 + 1, 0, none⟩) 1 1 [exE] := Sl.single (cs := [.string ⟨#[102]⟩, .slice (some ⟨w.heap.size + 1 + 1 + 1, 0, none⟩) 1 1, .string ⟨#[65]⟩, .string ⟨#[]⟩, .slice none 0 0, .slice none 0 0]) b5 ⟨_, rfl, _, _, _, rfl, ⟨_, _, rfl, s3⟩, ⟨none, 0, rfl, Sl.empty _ _ _⟩, ⟨none, 0, rfl, Sl.empty _ _ _⟩⟩ trivial
 have hfit : Fit W (some ⟨w.heap.size + 1 + 1 + 1 + 1 + 1, 0, none⟩) := fun ad e => by cases e; exact ⟨_, _, rfl, by omega⟩
 have hfine : ∀ x ∈ [exE], fine x := fun x hx => by
  rw [List.mem_singleton] at hx; subst hx
  exact ⟨sch_sz ex_valid, by decide, fun _ => by decide⟩
 have HM := hJ (kFU (mod := ⟨#[109]⟩) s5 hfit (by decide) hfine (by decide) (E.below hBW))
 have HB := hJ hBW
 have HE := hJ (fun (W' : World) (hW' : Below w.heap.size w W') => E.below hW')
 clear b0 b2 b3 b5 hsz hBW s0 s2 s3 s5 hfit hfine E
 have htame : ∀ x ∈ exI.entries, tame x := fun x hx => by
  have hx : x ∈ [(⟨⟨#[102]⟩, exC⟩ : Ent)] := hx
  rw [List.mem_singleton] at hx; subst hx
  exact ⟨sch_sz (by kernel_rfl), by decide⟩
 have HT := hJ htame; clear htame
 go_enter func5, ntmps5
 go_wp2_with fail
 refine HM.out.mono ?_
 rintro e w1 ⟨⟨A, ev, a', c', rfl, hsay, hs1⟩, hb1⟩
 obtain ⟨rfl, rfl⟩ := says_ex hsay; have HW1 := hJ (HB.out.trans (hb1.mono HB.out.size)); obtain ⟨W2, hW2⟩ : ∃ W2, w1.alloc (.cells #[.string exI.module_, .slice a' exI.entries.length c'] 29) = W2 := ⟨_, rfl⟩
 have HB2 : Hid (Below w1.heap.size w1 W2) := hJ (by rw [← hW2]; exact (Below.refl _ _).alloc (Nat.le_refl _) _)
 have HX2 : Hid (Bx W2 w1.heap.size 29 [.string exI.module_, .slice a' exI.entries.length c']) := hJ (by rw [← hW2]; exact Bx.fresh _ _ _)
 have HS2 := hJ (hs1.below HB2.out); have HWW2 := hJ (HW1.out.trans (HB2.out.mono HW1.out.size))
 have HP := hJ (signature_Print HS2.out HT.out (by decide) (HE.out _ HWW2.out))
 rw [ex_validI, if_pos rfl, ex_print] at HP; have x0 := HX2.out.cell 0 _ rfl; have x1 := HX2.out.cell 1 _ rfl; clear hW hsay hs1 hb1 HM
 go_wp2_with fail
 refine HP.out.mono ?_
 rintro e w3 ⟨rfl, hb3⟩
 clear hW2 x0 x1; have HW3 := hJ (HWW2.out.trans (hb3.mono HWW2.out.size)); have HX3 := hJ (HX2.out.below hb3 HX2.out.lt); have HS3 := hJ (HS2.out.below hb3); have y0 := HX3.out.cell 0 _ rfl; have y1 := HX3.out.cell 1 _ rfl
 have HV := hJ (kB9 HS3.out (fun e he => ⟨(HT.out e he).1, Nat.le_trans (HT.out e he).2 (by decide)⟩) (by decide) (HE.out _ HW3.out))
 rw [ex_validI] at HV
 go_wp2_with fail
 refine HV.out.mono ?_
 rintro e w4 ⟨rfl, hb4⟩
 clear y0 y1; have HW4 := hJ (HW3.out.trans (hb4.mono HW3.out.size)); have HX4 := hJ (HX3.out.below hb4 HX3.out.lt); have HS4 := hJ (HS3.out.below hb4); have z0 := HX4.out.cell 0 _ rfl; have z1 := HX4.out.cell 1 _ rfl; have HQ := hJ (signature_Equal HS4.out HS4.out); rw [(eqIfc_iff exI exI).2 rfl] at HQ
 go_wp2_with fail
 refine HQ.out.mono ?_
 rintro e w5 ⟨rfl, hb5⟩
 go_wp2_with fail
 go_ret
 exact ⟨rfl, HW4.out.trans (hb5.mono HW4.out.size)⟩
theorem kBI : ElemOf Tryz.prog 22 44 REnt.size 120 := ⟨by kernel_rfl, by kernel_rfl⟩
theorem oursIfc {S : Blk} {x : Ifc} {a : Option Addr} {n c : Nat} {w : World} (hs : Sl REnt S w a n c x.entries) (hn : n ≤ 1000000) :
 Calls Tryz.prog 8 #[.agg #[.string x.module_, .slice a n c]] w fun e w' => (∃ v, e = .returned (.agg #[.string x.module_, v]) ∧ Own REnt 43 (fun k => S k ∧ k < w.heap.size) w' (w.heap.size + 3) v x.entries) ∧ Below w.heap.size w w' := by
 obtain ⟨W, hW⟩ : ∃ W, ((w.alloc (.cells #[.string x.module_, .slice a n c] 24)).alloc (.cells #[.string ⟨#[]⟩, .slice none 0 0] 29)).alloc (.cells #[.string x.module_, .slice none 0 0] 29) = W := ⟨_, rfl⟩
 have hB0 : Below w.heap.size w W := by rw [← hW]; exact (((Below.refl _ _).alloc (by simp <;> omega) _).alloc (by simp <;> omega) _).alloc (by simp <;> omega) _
 have hsz : W.heap.size = w.heap.size + 3 := by rw [← hW]; simp
 have hX0 : Bx W w.heap.size 24 [.string x.module_, .slice a n c] := by rw [← hW]; exact ((Bx.fresh w 24 [.string x.module_, .slice a n c]).alloc _).alloc _
 have hX1 : Bx W (w.heap.size + 1) 29 [.string ⟨#[]⟩, .slice none 0 0] := by
  rw [← hW]; have h := (Bx.fresh (w.alloc (.cells #[.string x.module_, .slice a n c] 24)) 29 [.string ⟨#[]⟩, .slice none 0 0]).alloc (.cells #[.string x.module_, .slice none 0 0] 29)
  simpa using h
 have hX2 : Bx W (w.heap.size + 1 + 1) 29 [.string x.module_, .slice none 0 0] := by
  rw [← hW]; have h := Bx.fresh ((w.alloc (.cells #[.string x.module_, .slice a n c] 24)).alloc (.cells #[.string ⟨#[]⟩, .slice none 0 0] 29)) 29 [.string x.module_, .slice none 0 0]
  simpa using h
 have hlen := hs.len
 have hs0 : Sl REnt (fun k => S k ∧ k < w.heap.size) W a n c x.entries := (hs.mono (fun k hk hlt => ⟨hk, hlt⟩)).below hB0
 have HS := hJ hs0; have HL := hJ hlen; have HB0 := hJ hB0; have HX0 := hJ hX0; have HX1 := hJ hX1; have HX2 := hJ hX2; have HZ := hJ hsz; have q0 := True.intro; clear hs hs0 hlen hB0 hX0 hX1 hX2 hsz; have HWe := hJ hW; clear hW
 go_enter func8, ntmps8
 go_wp2_with fail
 rw [HWe.out]
 go_loopw [4] (fun i wr => ∃ (k : Nat) (v : Value), k ≤ n ∧ i = .int .i64 k ∧ Hid (Own REnt 43 (fun k => S k ∧ k < w.heap.size) wr (w.heap.size + 3) v (x.entries.take k)) ∧ Hid (Bx wr (w.heap.size + 1 + 1) 29 [.string x.module_, v]) ∧ Below (w.heap.size + 2) W wr) (fun i _ => n - (intOf i).toNat)
 case atStart => exact ⟨0, _, Nat.zero_le _, rfl, Own.nil _ _ _ _ _, HX2, Below.refl _ _⟩
 case round =>
  obtain ⟨k, v, hk, rfl, HO, HX, hB⟩ := hrel
  have hsz : w.heap.size + 3 ≤ wr.heap.size := by have := hB.size; have := HZ.out; omega
  have HXr := hJ (HX0.out.below hB (by omega))
  have y0 := HXr.out.cell 0 _ rfl; have y1 := HXr.out.cell 1 _ rfl; have z0 := HX.out.cell 0 _ rfl; have z1 := HX.out.cell 1 _ rfl
  have hl2 : w.heap.size + 1 + 1 < wr.heap.size := by omega
  have HSr : Hid (Sl REnt (fun k => S k ∧ k < w.heap.size) wr a n c x.entries) := hJ (HS.out.frame (fun q hq _ => hB.block q (by have := hq.2; omega)))
  by_cases hlt : k < n
  · obtain ⟨b, off, rfl, hbW, hSb⟩ := HSr.out.form k hlt
    obtain ⟨_, _, _, hr, ⟨⟨ap, cp, rfl, _⟩, ⟨at_, ct, rfl, _⟩, ⟨aq, cq, rfl, _⟩⟩, c0, c1, c2, c3, c4, c5⟩ := HSr.out.ent k hlt
    have hkl : k < x.entries.length := by rw [HL.out]; exact hlt
    have HT : Hid (x.entries.take (k + 1) = x.entries.take k ++ [x.entries.getD k default]) := hJ (kAU hkl)
    have hlen : (x.entries.take k).length = k := by rw [List.length_take]; omega
    have HLk := hJ hlen; have HR := hJ hr; obtain ⟨va, vm, vc, rfl⟩ := HO.out.shape
    have hob : ∀ q, (Value.slice va vm vc).ownBlock = some q → w.heap.size + 3 ≤ q := fun q e => HO.out.base_le q e
    clear hkl hr hlen
    generalize x.entries.getD k default = y at *
    go_wp2_with fail
    go_region_law (first
     | (refine kCC elemEnt rfl (.tmp 16) (.tmp 22) rfl (w.heap.size + 3) _ (x.entries.take k) rfl (HO.out.below (by go_grown)) wr.heap.size y [.string y.name, .slice ap y.scheme.params.length cp, .string y.scheme.result.elem, .string y.scheme.result.shape.row, .slice at_ y.scheme.result.shape.dims.length ct, .slice aq y.scheme.wh.length cq] rfl ?ry ?rc ?rl ?rm ?rb ?_
        case ry => first | exact REnt.below (REnt.mono HR.out (fun q hq _ => ⟨hq, fun e => by have h1 := hob q e; have h2 := hq.2; omega⟩)) (by go_grown)
        case rc => first | exact kA4 43 (by (simp only [kAG, kAE, Array.getElem?_push, Array.size_push]; simp))
        case rl => first | (rw [HLk.out]; omega)
        case rm => first | (rw [HLk.out]; unfold maxLen; omega)
        case rb => first | (simp; omega)
        intro v5 w5 hown5 hb5 hk5
        have hB5 : Below (w.heap.size + 3) wr w5 := Below.trans (Below.mono (B := wr.heap.size) (by go_grown) hsz) hb5
        obtain ⟨a5, m5, c5', rfl⟩ := hown5.shape
        have HX5 := HX.out.below hB5 (by omega)
        have u1 := HX5.cell 1 _ rfl
        have f1 := HX5.fz 1))
    all_goals go_wp2_with fail
    all_goals go_roundw
    all_goals first
     | exact ⟨k + 1, _, by omega, by go_num, hJ (by rw [HT.out]; exact hown5.set _ (fun q hq => by have := hq.2; show q ≠ w.heap.size + 1 + 1; omega) (by show w.heap.size + 1 + 1 < w.heap.size + 3; omega)), hJ (HX5.set 1 _), (hB.trans (hB5.mono (by omega))).setCell (by show w.heap.size + 2 ≤ w.heap.size + 1 + 1; omega) _⟩
     | (simp [intOf]; omega)
  · have HAll : Hid (x.entries.take k = x.entries) := hJ (List.take_of_length_le (by rw [HL.out]; omega))
    rw [HAll.out] at HO; obtain ⟨va, vm, vc, rfl⟩ := HO.out.shape
    have HR1 := hJ (HX1.out.below hB (by omega))
    have t0 := HR1.out.cell 0 _ rfl; have t1 := HR1.out.cell 1 _ rfl; have f0 := HR1.out.fz 0; have f1 := HR1.out.fz 1; have hl1 := HR1.out.lt; have HZz := hJ ((HR1.out.set 0 (.string x.module_)).set 1 (.slice va vm vc)); have s0 := HZz.out.cell 0 _ rfl; have s1 := HZz.out.cell 1 _ rfl
    go_wp2_with fail
    refine bodyPost_ret (v := .agg #[.string x.module_, .slice va vm vc]) (by simp [results, results8, go_sem, s0, s1, hl1]) rfl ?_
    refine ⟨⟨_, rfl, (HO.out.set _ (fun q hq => ?_) ?_).set _ (fun q hq => ?_) ?_⟩, ((HB0.out.trans (hB.mono (by omega))).setCell ?_ _).setCell ?_ _⟩
    · have := hq.2; show q ≠ w.heap.size + 1; omega
    · show w.heap.size + 1 < w.heap.size + 3; omega
    · have := hq.2; show q ≠ w.heap.size + 1; omega
    · show w.heap.size + 1 < w.heap.size + 3; omega
    · show w.heap.size ≤ w.heap.size + 1; omega
    · show w.heap.size ≤ w.heap.size + 1; omega
theorem theirsIfc {S : Blk} {x : Ifc} {a : Option Addr} {n c : Nat} {w : World} (hs : Sl REnt S w a n c x.entries) (hn : n ≤ 1000000) :
 Calls Tryz.prog 12 #[.agg #[.string x.module_, .slice a n c]] w fun e w' => (∃ v, e = .returned (.agg #[.string x.module_, v]) ∧ Own REnt 44 (fun k => S k ∧ k < w.heap.size) w' (w.heap.size + 3) v x.entries) ∧ Below w.heap.size w w' := by
 obtain ⟨W, hW⟩ : ∃ W, ((w.alloc (.cells #[.string x.module_, .slice a n c] 29)).alloc (.cells #[.string ⟨#[]⟩, .slice none 0 0] 24)).alloc (.cells #[.string x.module_, .slice none 0 0] 24) = W := ⟨_, rfl⟩
 have hB0 : Below w.heap.size w W := by rw [← hW]; exact (((Below.refl _ _).alloc (by simp <;> omega) _).alloc (by simp <;> omega) _).alloc (by simp <;> omega) _
 have hsz : W.heap.size = w.heap.size + 3 := by rw [← hW]; simp
 have hX0 : Bx W w.heap.size 29 [.string x.module_, .slice a n c] := by rw [← hW]; exact ((Bx.fresh w 29 [.string x.module_, .slice a n c]).alloc _).alloc _
 have hX1 : Bx W (w.heap.size + 1) 24 [.string ⟨#[]⟩, .slice none 0 0] := by
  rw [← hW]; have h := (Bx.fresh (w.alloc (.cells #[.string x.module_, .slice a n c] 29)) 24 [.string ⟨#[]⟩, .slice none 0 0]).alloc (.cells #[.string x.module_, .slice none 0 0] 24)
  simpa using h
 have hX2 : Bx W (w.heap.size + 1 + 1) 24 [.string x.module_, .slice none 0 0] := by
  rw [← hW]; have h := Bx.fresh ((w.alloc (.cells #[.string x.module_, .slice a n c] 29)).alloc (.cells #[.string ⟨#[]⟩, .slice none 0 0] 24)) 24 [.string x.module_, .slice none 0 0]
  simpa using h
 have hlen := hs.len
 have hs0 : Sl REnt (fun k => S k ∧ k < w.heap.size) W a n c x.entries := (hs.mono (fun k hk hlt => ⟨hk, hlt⟩)).below hB0
 have HS := hJ hs0; have HL := hJ hlen; have HB0 := hJ hB0; have HX0 := hJ hX0; have HX1 := hJ hX1; have HX2 := hJ hX2; have HZ := hJ hsz; have q0 := True.intro; clear hs hs0 hlen hB0 hX0 hX1 hX2 hsz; have HWe := hJ hW; clear hW
 go_enter func12, ntmps12
 go_wp2_with fail
 rw [HWe.out]
 go_loopw [4] (fun i wr => ∃ (k : Nat) (v : Value), k ≤ n ∧ i = .int .i64 k ∧ Hid (Own REnt 44 (fun k => S k ∧ k < w.heap.size) wr (w.heap.size + 3) v (x.entries.take k)) ∧ Hid (Bx wr (w.heap.size + 1 + 1) 24 [.string x.module_, v]) ∧ Below (w.heap.size + 2) W wr) (fun i _ => n - (intOf i).toNat)
 case atStart => exact ⟨0, _, Nat.zero_le _, rfl, Own.nil _ _ _ _ _, HX2, Below.refl _ _⟩
 case round =>
  obtain ⟨k, v, hk, rfl, HO, HX, hB⟩ := hrel
  have hsz : w.heap.size + 3 ≤ wr.heap.size := by have := hB.size; have := HZ.out; omega
  have HXr := hJ (HX0.out.below hB (by omega))
  have y0 := HXr.out.cell 0 _ rfl; have y1 := HXr.out.cell 1 _ rfl; have z0 := HX.out.cell 0 _ rfl; have z1 := HX.out.cell 1 _ rfl
  have hl2 : w.heap.size + 1 + 1 < wr.heap.size := by omega
  have HSr : Hid (Sl REnt (fun k => S k ∧ k < w.heap.size) wr a n c x.entries) := hJ (HS.out.frame (fun q hq _ => hB.block q (by have := hq.2; omega)))
  by_cases hlt : k < n
  · obtain ⟨b, off, rfl, hbW, hSb⟩ := HSr.out.form k hlt
    obtain ⟨_, _, _, hr, ⟨⟨ap, cp, rfl, _⟩, ⟨at_, ct, rfl, _⟩, ⟨aq, cq, rfl, _⟩⟩, c0, c1, c2, c3, c4, c5⟩ := HSr.out.ent k hlt
    have hkl : k < x.entries.length := by rw [HL.out]; exact hlt
    have HT : Hid (x.entries.take (k + 1) = x.entries.take k ++ [x.entries.getD k default]) := hJ (kAU hkl)
    have hlen : (x.entries.take k).length = k := by rw [List.length_take]; omega
    have HLk := hJ hlen; have HR := hJ hr; obtain ⟨va, vm, vc, rfl⟩ := HO.out.shape
    have hob : ∀ q, (Value.slice va vm vc).ownBlock = some q → w.heap.size + 3 ≤ q := fun q e => HO.out.base_le q e
    clear hkl hr hlen
    generalize x.entries.getD k default = y at *
    go_wp2_with fail
    go_region_law (first
     | (refine kCC kBI rfl (.tmp 16) (.tmp 22) rfl (w.heap.size + 3) _ (x.entries.take k) rfl (HO.out.below (by go_grown)) wr.heap.size y [.string y.name, .slice ap y.scheme.params.length cp, .string y.scheme.result.elem, .string y.scheme.result.shape.row, .slice at_ y.scheme.result.shape.dims.length ct, .slice aq y.scheme.wh.length cq] rfl ?ry ?rc ?rl ?rm ?rb ?_
        case ry => first | exact REnt.below (REnt.mono HR.out (fun q hq _ => ⟨hq, fun e => by have h1 := hob q e; have h2 := hq.2; omega⟩)) (by go_grown)
        case rc => first | exact kA4 44 (by (simp only [kAG, kAE, Array.getElem?_push, Array.size_push]; simp))
        case rl => first | (rw [HLk.out]; omega)
        case rm => first | (rw [HLk.out]; unfold maxLen; omega)
        case rb => first | (simp; omega)
        intro v5 w5 hown5 hb5 hk5
        have hB5 : Below (w.heap.size + 3) wr w5 := Below.trans (Below.mono (B := wr.heap.size) (by go_grown) hsz) hb5
        obtain ⟨a5, m5, c5', rfl⟩ := hown5.shape
        have HX5 := HX.out.below hB5 (by omega)
        have u1 := HX5.cell 1 _ rfl
        have f1 := HX5.fz 1))
    all_goals go_wp2_with fail
    all_goals go_roundw
    all_goals first
     | exact ⟨k + 1, _, by omega, by go_num, hJ (by rw [HT.out]; exact hown5.set _ (fun q hq => by have := hq.2; show q ≠ w.heap.size + 1 + 1; omega) (by show w.heap.size + 1 + 1 < w.heap.size + 3; omega)), hJ (HX5.set 1 _), (hB.trans (hB5.mono (by omega))).setCell (by show w.heap.size + 2 ≤ w.heap.size + 1 + 1; omega) _⟩
     | (simp [intOf]; omega)
  · have HAll : Hid (x.entries.take k = x.entries) := hJ (List.take_of_length_le (by rw [HL.out]; omega))
    rw [HAll.out] at HO; obtain ⟨va, vm, vc, rfl⟩ := HO.out.shape
    have HR1 := hJ (HX1.out.below hB (by omega))
    have t0 := HR1.out.cell 0 _ rfl; have t1 := HR1.out.cell 1 _ rfl; have f0 := HR1.out.fz 0; have f1 := HR1.out.fz 1; have hl1 := HR1.out.lt; have HZz := hJ ((HR1.out.set 0 (.string x.module_)).set 1 (.slice va vm vc)); have s0 := HZz.out.cell 0 _ rfl; have s1 := HZz.out.cell 1 _ rfl
    go_wp2_with fail
    refine bodyPost_ret (v := .agg #[.string x.module_, .slice va vm vc]) (by simp [results, results12, go_sem, s0, s1, hl1]) rfl ?_
    refine ⟨⟨_, rfl, (HO.out.set _ (fun q hq => ?_) ?_).set _ (fun q hq => ?_) ?_⟩, ((HB0.out.trans (hB.mono (by omega))).setCell ?_ _).setCell ?_ _⟩
    · have := hq.2; show q ≠ w.heap.size + 1; omega
    · show w.heap.size + 1 < w.heap.size + 3; omega
    · have := hq.2; show q ≠ w.heap.size + 1; omega
    · show w.heap.size + 1 < w.heap.size + 3; omega
    · show w.heap.size ≤ w.heap.size + 1; omega
    · show w.heap.size ≤ w.heap.size + 1; omega
theorem allT_lt {s : Sch} {k : Nat} (h : k < s.params.length) : (allT s).getD k default = s.params.getD k default := by
 unfold allT
 rw [List.getD_eq_getElem?_getD, List.getD_eq_getElem?_getD, List.getElem?_append_left h]
theorem allT_last (s : Sch) : (allT s).getD s.params.length default = s.result := by
 unfold allT
 rw [List.getD_eq_getElem?_getD, List.getElem?_append_right (Nat.le_refl _)]
 simp
theorem sch_badA {b : List Bnd} {s : Sch} {i : Nat} (hi : i < s.params.length + 1) (h : kA5 b ((allT s).getD i default).shape = false) : kBL b s = kCQ ∧ kB7 b s = 3 := by
 by_cases h1 : i < s.params.length
 · rw [allT_lt h1] at h; exact sch_badP h1 h
 · obtain rfl : i = s.params.length := by omega
   rw [allT_last] at h; exact sch_badR h
theorem allT_validAt {s : Sch} (hv : kAJ s = true) {i : Nat} (hi : i < s.params.length + 1) : kAK ((allT s).getD i default) = true := by
 have hp := kAT hv
 by_cases h1 : i < s.params.length
 · rw [allT_lt h1]; exact hp.2.2.1 _ (kAI h1)
 · obtain rfl : i = s.params.length := by omega
   rw [allT_last]; exact hp.2.2.2.1
theorem ref12_SubstScheme {S T : Blk} {s : Sch} {cs : List Value} {w : World} (h : RSch.rd S w cs s) (hv : kAJ s = true) (b : List Bnd) (a : Option Addr) (nb cb : Nat) (hbs : Sl RBnd T w a nb cb b) (hb : kBG b = true) (hp : kEZ b) :
 Calls Tryz.prog 30 #[.agg cs.toArray, .slice a nb cb] w fun e w' => (∃ ds, e = .returned (.tuple #[.agg ds.toArray, .int .i64 (kB7 b s)]) ∧ kDP w.heap.size w' ds (kBL b s)) ∧ Below w.heap.size w w' := by
 have hpl12 : s.params.length ≤ 1000000 := by have := (kAT hv).1; omega
 have HCV : Hid (∀ W, Below w.heap.size w W → Calls Tryz.prog 29 #[.agg cs.toArray] W fun e w' => e = .returned (.bool true) ∧ Below W.heap.size W w') :=
  hJ (fun W hW => hv ▸ kB0 (RSch.below h hW) (sch_sz hv) hpl12)
 have HCA : Hid (∀ W, Below w.heap.size w W → Calls Tryz.prog 33 #[.agg cs.toArray] W fun e w' => (∃ v, e = .returned v ∧ Own RTyp 39 (fun k => S k ∧ k < w.heap.size) w' W.heap.size v (allT s)) ∧ Below W.heap.size W w') :=
  hJ (fun W hW => kD8 (RSch.below (RSch.mono h (fun k hk hlt => ⟨hk, hlt⟩)) hW) hpl12)
 have HCB : Hid (∀ W, Below w.heap.size w W → Calls Tryz.prog 68 #[.slice a nb cb] W fun e w' => e = .returned (.bool true) ∧ Below W.heap.size W w') :=
  hJ (fun W hW => kDC b a nb cb W (hbs.below hW) hb)
 have HCT := hJ (fun (S' : Blk) (W : World) (hW : Below w.heap.size w W) (x : Typ) (ds : List Value) (hx : RTyp.rd S' W ds x) (hvx : kAK x = true) => ref12_Subst hx hvx b a nb cb (hbs.below hW) hb hp)
 have HCL := hJ (fun (W : World) (hW : Below w.heap.size w W) (x : Lin) (ds : List Value) (hx : RLin.rd S W ds x) (hvx : kAD x = true) => ref04_Subst hx hvx b a nb cb (hbs.below hW) (kC0 hb))
 have HAV := hJ (fun (i : Nat) (q : i < s.params.length + 1) => allT_validAt hv q)
 have HBadA := hJ (fun (i : Nat) (q : i < s.params.length + 1) => sch_badA (b := b) q)
 have HA1 := hJ (fun (i : Nat) (q : i < s.params.length) => allT_lt q)
 have HA2' := hJ (allT_last s)
 have hAl : (allT s).length = s.params.length + 1 := by unfold allT; rw [List.length_append]; rfl
 obtain ⟨_, _, _, rfl, ⟨ap, cp, rfl, hps⟩, ⟨ar, cr, rfl, hrs⟩, ⟨aq, cq, rfl, hqs⟩⟩ := h; have HPs := hJ hps; have HRs := hJ hrs; have HQs := hJ hqs; have HV := hJ (kAT hv)
 have HGood := hJ (fun q1 q2 q3 => sch_good (b := b) (s := s) hv hb q1 q2 q3)
 have hpm := hps.small; have hqm := hqs.small; have hp12 := (kAT hv).1; have hq60 := (kAT hv).2.1; clear hps hrs hqs hbs hv hb hp
 generalize hnn : s.params.length = n at *
 generalize hmm : s.wh.length = m at *
 have HN := hJ hnn; have HM := hJ hmm; clear hnn hmm; obtain ⟨B0, ya, yb, hW0⟩ := box2 w 41 [.slice ap n cp, .string s.result.elem, .string s.result.shape.row, .slice ar s.result.shape.dims.length cr, .slice aq m cq] 41 [.slice none 0 0, .string ⟨#[]⟩, .string ⟨#[]⟩, .slice none 0 0, .slice none 0 0]; have xa0 := box0 ya 0 _ rfl; have xa1 := box0 ya 1 _ rfl; have xa2 := box0 ya 2 _ rfl; have xa3 := box0 ya 3 _ rfl; have xa4 := box0 ya 4 _ rfl; have xb0 := box0 yb 0 _ rfl; have xb1 := box0 yb 1 _ rfl; have xb2 := box0 yb 2 _ rfl; have xb3 := box0 yb 3 _ rfl; have xb4 := box0 yb 4 _ rfl
 have bka : Bx _ _ _ _ := ya; have bkb : Bx _ _ _ _ := yb
 clear ya yb; have HA0 := hJ bka; have HR0 := hJ bkb; clear bka bkb
 go_enter func30, ntmps30
 go_wp2_with fail
 refine (HCV.out _ B0.out).mono ?_
 rintro e w1 ⟨rfl, hb1⟩
 have hW1 := B0.out.trans (hb1.mono B0.out.size)
 go_wp2_with fail
 refine (HCB.out _ hW1).mono ?_
 rintro e w2 ⟨rfl, hb2⟩
 have HW := hJ (hW1.trans (hb2.mono hW1.size)); have HA2 := hJ ((HA0.out.below hb1 HA0.out.lt).below hb2 (HA0.out.below hb1 HA0.out.lt).lt); have HR2 := hJ ((HR0.out.below hb1 HR0.out.lt).below hb2 (HR0.out.below hb1 HR0.out.lt).lt); have hlR := HR2.out.lt; have hlA := HA2.out.lt; clear xa0 xa1 xa2 xa3 xa4 xb0 xb1 xb2 xb3 xb4 hb1 hb2 hW1 HR0 HA0 B0 HCV HCB; obtain ⟨w3, hw3⟩ : ∃ q, q = w2.alloc (.cells #[.slice none 0 0, .string ⟨#[]⟩, .string ⟨#[]⟩, .slice none 0 0, .slice none 0 0] 41) := ⟨_, rfl⟩; have hfold := hw3.symm
 have HG3 : Hid (Bx w3 w2.heap.size 41 [.slice none 0 0, .string ⟨#[]⟩, .string ⟨#[]⟩, .slice none 0 0, .slice none 0 0]) := hJ (by rw [hw3]; exact Bx.fresh _ _ _)
 have HB3 : Hid (Below w2.heap.size w2 w3) := hJ (by rw [hw3]; exact (Below.refl _ _).alloc (Nat.le_refl _) _)
 clear hw3; have HA3 := hJ (HA2.out.below HB3.out hlA); have y0 := HA3.out.cell 0 _ rfl; have y1 := HA3.out.cell 1 _ rfl; have y2 := HA3.out.cell 2 _ rfl; have y3 := HA3.out.cell 3 _ rfl; have y4 := HA3.out.cell 4 _ rfl
 go_wp2_with fail
 refine (HCA.out w3 (HW.out.trans (HB3.out.mono HW.out.size))).mono ?_
 rintro e w4 ⟨⟨v, rfl, hown⟩, hb4⟩
 obtain ⟨al, cl, rfl, hsl⟩ := hown.sl
 rw [hAl] at hsl ⊢
 have HLs := hJ hsl; have HG4 := hJ (HG3.out.below hb4 HG3.out.lt); have HB4 := hJ (HB3.out.trans (hb4.mono HB3.out.size)); have HA4 := hJ (HA3.out.below hb4 HA3.out.lt); have HR4 := hJ ((HR2.out.below HB3.out HR2.out.lt).below hb4 (HR2.out.below HB3.out HR2.out.lt).lt); have hz3 := hb4.size; have hz4 := HB3.out.size; clear hown hsl hb4 y0 y1 y2 y3 y4; have hzG := HG3.out.lt; have hzW := HW.out.size
 go_wp2_with fail
 go_loopw [8] (fun i wr => ∃ (k : Nat) (v0 c1 c2 c3 : Value), k ≤ n + 1 ∧ i = .int .i64 k ∧ Hid (∀ j, j < k → kA5 b ((allT s).getD j default).shape = true) ∧ Hid (Own RTyp 39 (fun q => w4.heap.size ≤ q) wr w4.heap.size v0 ((s.params.take k).map (kAX b))) ∧ Hid (Bx wr w2.heap.size 41 [v0, c1, c2, c3, .slice none 0 0]) ∧ Below w2.heap.size w2 wr ∧ Hid (∀ q, q < w4.heap.size → q ≠ w2.heap.size → wr.heap[q]? = w4.heap[q]?) ∧ w4.heap.size ≤ wr.heap.size ∧ Hid (k ≤ n → c1 = .string ⟨#[]⟩ ∧ c2 = .string ⟨#[]⟩ ∧ c3 = .slice none 0 0) ∧ Hid (k = n + 1 → ∃ a5 c5, c1 = .string (kAX b s.result).elem ∧ c2 = .string (kAX b s.result).shape.row ∧ c3 = .slice a5 (kAX b s.result).shape.dims.length c5 ∧ Sl RLin (fun q => w4.heap.size ≤ q) wr a5 (kAX b s.result).shape.dims.length c5 (kAX b s.result).shape.dims)) (fun i _ => n + 1 - (intOf i).toNat)
 case atStart => exact ⟨0, _, _, _, _, Nat.zero_le _, rfl, hJ (fun i hi => absurd hi (by omega)), hJ (Own.nil _ _ _ _ _), HG4, HB4.out, hJ (fun _ _ _ => rfl), Nat.le_refl _, hJ (fun _ => ⟨rfl, rfl, rfl⟩), hJ (fun q => absurd q (by omega))⟩
 case round =>
  obtain ⟨k, v0, c1, c2, c3, hk, rfl, HT, HO, HG, hB, HKeep, hsz, HZ, HE⟩ := hrel; have HBw := hJ (HW.out.trans (hB.mono HW.out.size))
  have HRr : Hid (Bx wr _ _ _) := hJ ((HKeep.out _ HR4.out.lt (by omega)).trans HR4.out)
  have HAr : Hid (Bx wr _ _ _) := hJ ((HKeep.out _ HA4.out.lt (by omega)).trans HA4.out)
  have hlG := HG.out.lt; have hlA3 := HAr.out.lt; have y0 := HAr.out.cell 0 _ rfl
  have HLr := hJ (HLs.out.frame (w' := wr) (fun q hq hlt => HKeep.out q hlt (by rcases hq with hq | hq; exact (by have := hq.2; omega); exact (by have hq : w3.heap.size ≤ q := hq; omega))))
  by_cases hlt : k < n + 1
  · obtain ⟨q1, q2, q3⟩ := HZ.out (by omega)
    subst q1 q2 q3
    clear HE HZ; obtain ⟨a0, m0, c0, rfl⟩ := HO.out.shape; obtain ⟨b1, off, rfl, hbW, _⟩ := HLr.out.form k hlt; obtain ⟨t, hr, ⟨at_, ct, rfl, hts⟩, e0, e1, e2⟩ := HLr.out.typ k hlt
    have HK : Hid (k < n + 1) := hJ hlt
    have HBad := hJ (fun q => HBadA.out k hlt q)
    have HUp := hJ (fun q => upto HT.out (p := fun j => kA5 b ((allT s).getD j default).shape = true) q)
    have HXv := hJ (HAV.out k hlt)
    have HNx : Hid (k < n → (allT s).getD k default = s.params.getD k default) := hJ (fun q => HA1.out k q)
    have HLx : Hid (k = n → (allT s).getD k default = s.result) := hJ (fun q => by rw [q]; exact HA2'.out)
    have hkl : ((s.params.take k).map (kAX b)).length = k := by rw [List.length_map, List.length_take, HN.out]; omega
    have HNext : Hid (k < n → (s.params.take (k + 1)).map (kAX b) = (s.params.take k).map (kAX b) ++ [kAX b (s.params.getD k default)]) := hJ (fun q => by rw [kAU (by rw [HN.out]; exact q), List.map_append]; rfl)
    generalize (allT s).getD k default = x at *
    have HCx := hJ (HCT.out _ _ HBw.out x _ hr HXv.out); clear hr hts
    cases hok : kA5 b x.shape with
    | false =>
      have HBd := hJ (HBad.out hok); rw [(kBT hok).1, (kBT hok).2.1] at HCx; clear hok
      go_wp2_with fail
      refine HCx.out.mono ?_
      rintro e w5 ⟨⟨_, rfl, hr5⟩, hb5⟩
      obtain ⟨_, rfl, a5, c5, rfl, hs5⟩ := hr5; have HR5 := hJ (HRr.out.below hb5 HRr.out.lt); obtain ⟨w7, hfold7⟩ : ∃ q, w5.alloc (.cells #[.string kDL.elem, .string kDL.shape.row, .slice a5 kDL.shape.dims.length c5] 39) = q := ⟨_, rfl⟩; have HRw := hJ (HR5.out.alloc (.cells #[.string kDL.elem, .string kDL.shape.row, .slice a5 kDL.shape.dims.length c5] 39)); rw [hfold7] at HRw
      have HWw : Hid (Below w.heap.size w w7) := hJ (by rw [← hfold7]; exact (HBw.out.trans (hb5.mono HBw.out.size)).alloc (by have := hb5.size; have := HBw.out.size; omega) _)
      have v0 := HRw.out.cell 0 _ rfl; have v1 := HRw.out.cell 1 _ rfl; have v2 := HRw.out.cell 2 _ rfl; have v3 := HRw.out.cell 3 _ rfl; have v4 := HRw.out.cell 4 _ rfl; have u0 := HRw.out.fz 0; have u1 := HRw.out.fz 1; have u2 := HRw.out.fz 2; have u3 := HRw.out.fz 3; have u4 := HRw.out.fz 4; have hlr := HRw.out.lt; have HX60 := hJ (((((HRw.out.set 0 (.slice none 0 0)).set 1 (.string ⟨#[]⟩)).set 2 (.string ⟨#[]⟩)).set 3 (.slice none 0 0)).set 4 (.slice none 0 0)); have s0 := HX60.out.cell 0 _ rfl; have s1 := HX60.out.cell 1 _ rfl; have s2 := HX60.out.cell 2 _ rfl; have s3 := HX60.out.cell 3 _ rfl; have s4 := HX60.out.cell 4 _ rfl
      go_wp2_with fail
      refine bodyPost_ret (v := .tuple #[.agg #[.slice none 0 0, .string ⟨#[]⟩, .string ⟨#[]⟩, .slice none 0 0, .slice none 0 0], .int .i64 3]) (by simp [results, results30, go_sem, s0, s1, s2, s3, s4, hlr]) rfl ?_
      refine ⟨⟨[.slice none 0 0, .string ⟨#[]⟩, .string ⟨#[]⟩, .slice none 0 0, .slice none 0 0], by rw [HBd.out.2], by rw [HBd.out.1]; exact kDP.no ..⟩, ?_⟩
      repeat (first | exact HWw.out | refine Below.setCell ?_ (by show _ ≤ w.heap.size + 1; omega) _)
    | true =>
      have HUp2 := hJ (HUp.out hok); rw [(kC2 hok).1, (kC2 hok).2.1] at HCx; clear hok HBad HUp
      go_wp2_with fail
      refine HCx.out.mono ?_
      rintro e w5 ⟨⟨_, rfl, hr5⟩, hb5⟩
      obtain ⟨_, rfl, a5, c5, rfl, hs5⟩ := hr5; obtain ⟨y, hy⟩ : ∃ y, y = kAX b x := ⟨_, rfl⟩; have HY := hJ hy
      rw [← hy] at hs5 ⊢
      clear hy; obtain ⟨w7, hfold7⟩ : ∃ q, w5.alloc (.cells #[.string y.elem, .string y.shape.row, .slice a5 y.shape.dims.length c5] 39) = q := ⟨_, rfl⟩
      have HB7 : Hid (Below wr.heap.size wr w7) := hJ (by rw [← hfold7]; exact hb5.alloc hb5.size _)
      have HP7 : Hid (Bx w7 w5.heap.size 39 [.string y.elem, .string y.shape.row, .slice a5 y.shape.dims.length c5]) := hJ (by rw [← hfold7]; exact Bx.fresh _ _ _)
      have r0 := HP7.out.cell 0 _ rfl; have r1 := HP7.out.cell 1 _ rfl; have r2 := HP7.out.cell 2 _ rfl; have HG7 := hJ (HG.out.below HB7.out hlG); have HA7 := hJ (HAr.out.below HB7.out HAr.out.lt); have z0 := HA7.out.cell 0 _ rfl; have hs7 := HB7.out.size; have HS7 := hJ ((hs5.below ((Below.refl _ _).alloc (Nat.le_refl _) (.cells #[.string y.elem, .string y.shape.row, .slice a5 y.shape.dims.length c5] 39)))); rw [hfold7] at HS7; clear hs5
      by_cases hkn : k < n
      · have g0 := HG7.out.cell 0 _ rfl
        have hki : (k : Int) < (n : Int) := by omega
        have HRY : Hid (RTyp.rd (fun q => w4.heap.size ≤ q ∧ (Value.slice a0 m0 c0).ownBlock ≠ some q) w7 [.string y.elem, .string y.shape.row, .slice a5 y.shape.dims.length c5] y) := hJ ⟨_, rfl, a5, c5, rfl, HS7.out.mono (fun q hq _ => ⟨by have hq : wr.heap.size ≤ q := hq; omega, fun e => by have h8 := (HO.out.block e).2; have hq : wr.heap.size ≤ q := hq; omega⟩)⟩
        have HNext2 : Hid ((s.params.take (k + 1)).map (kAX b) = (s.params.take k).map (kAX b) ++ [y]) := hJ (by rw [HNext.out hkn, ← HNx.out hkn, HY.out])
        generalize (s.params.take k).map (kAX b) = lk at *
        go_wp2_with (at_builtin; refine kA8 kGE rfl _ _ rfl w4.heap.size _ _ rfl ((HO.out.below HB7.out).alloc _) _ y [.string y.elem, .string y.shape.row, .slice a5 y.shape.dims.length c5] rfl (RTyp.below HRY.out ((Below.refl _ _).alloc (Nat.le_refl _) _)) (kA4 39 (by (simp only [kAG, kAE, Array.getElem?_push, Array.size_push]; simp))) (by omega) (by unfold maxLen; omega) (by simp; omega) ?_; intro v9 w9 hown9 hb9 hk9; obtain ⟨a9, m9, c9, rfl⟩ := hown9.shape; have HG9 := hJ ((HG7.out.alloc _).kp hk9 (HO.out.ne (by omega))); have g9 := HG9.out.cell 0 _ rfl; have u9 := HG9.out.fz 0)
        go_roundw
        case rel => exact ⟨k + 1, _, _, _, _, by omega, by go_num, HUp2, hJ (by rw [HNext2.out]; exact hown9.set _ (fun q hq => by show q ≠ w2.heap.size; omega) (by show w2.heap.size < _; omega)), hJ (HG9.out.set 0 _), ((hB.trans (HB7.out.mono hB.size)).trans (((Below.refl _ _).alloc (by omega) _).trans (hb9.mono (by omega)))).setCell (Nat.le_refl _) _, hJ (fun q hq hne => (kAA (fun e => hne e.symm)).trans ((((Below.refl _ _).alloc (B := w4.heap.size) (by omega) _).trans hb9).block q hq |>.trans ((HB7.out.block q (by omega)).trans (HKeep.out q hq hne)))), by have := hb9.size; simp at this ⊢; omega, hJ (fun _ => ⟨rfl, rfl, rfl⟩), hJ (fun q => absurd q (by omega))⟩
        case measure => simp [intOf]; omega
      · have hki : ¬ (k : Int) < (n : Int) := by omega
        have g1 := HG7.out.cell 1 _ rfl; have g2 := HG7.out.cell 2 _ rfl; have g3 := HG7.out.cell 3 _ rfl; have u1 := HG7.out.fz 1; have u2 := HG7.out.fz 2; have u3 := HG7.out.fz 3
        obtain rfl : k = n := by omega
        have HYr : Hid (y = kAX b s.result) := hJ (by rw [HY.out, HLx.out rfl])
        have HTk : Hid (s.params.take (k + 1) = s.params.take k) := hJ (by rw [List.take_of_length_le (by rw [HN.out]; omega), List.take_of_length_le (by rw [HN.out]; omega)])
        go_wp2_with fail
        go_roundw
        case rel =>
         refine ⟨k + 1, _, _, _, _, by omega, by go_num, HUp2, hJ (by rw [HTk.out]; exact (((HO.out.below HB7.out).set _ (fun q hq => by show q ≠ w2.heap.size; omega) (by show w2.heap.size < _; omega)).set _ (fun q hq => by show q ≠ w2.heap.size; omega) (by show w2.heap.size < _; omega)).set _ (fun q hq => by show q ≠ w2.heap.size; omega) (by show w2.heap.size < _; omega)), hJ (((HG7.out.set 1 _).set 2 _).set 3 _), (((hB.trans (HB7.out.mono hB.size)).setCell (Nat.le_refl _) _).setCell (Nat.le_refl _) _).setCell (Nat.le_refl _) _, hJ (fun q hq hne => (kAA (fun e => hne e.symm)).trans ((kAA (fun e => hne e.symm)).trans ((kAA (fun e => hne e.symm)).trans ((HB7.out.block q (by omega)).trans (HKeep.out q hq hne))))), by simp <;> omega, hJ (fun q => absurd q (by omega)), hJ (fun _ => ?_)⟩
         refine ⟨a5, c5, by rw [HYr.out], by rw [HYr.out], by rw [HYr.out], ?_⟩
         rw [← HYr.out]
         have hne : ∀ q, w4.heap.size ≤ q → w2.heap.size ≠ q := fun q hq => by omega
         exact ((((HS7.out.mono (S' := fun q => w4.heap.size ≤ q) (fun q hq _ => by have hq : wr.heap.size ≤ q := hq; omega)).set hne).set hne).set hne)
        case measure => simp [intOf] <;> omega
  · have hkn : k = n + 1 := by omega
    obtain ⟨a5, c5, q1, q2, q3, hs5⟩ := HE.out hkn
    have hki : ¬ (k : Int) < (n : Int) + 1 := by omega
    subst q1 q2 q3
    have HokR : Hid (kA5 b s.result.shape = true) := hJ (by have := HT.out n (by omega); rwa [HA2'.out] at this)
    have HT0 : Hid (∀ j, j < n → kA5 b (s.params.getD j default).shape = true) := hJ (fun j hj => by have := HT.out j (by omega); rwa [HA1.out j hj] at this)
    have HAll : Hid ((s.params.take k).map (kAX b) = s.params.map (kAX b)) := hJ (by rw [List.take_of_length_le (by rw [HN.out]; omega)])
    have HO7 := hJ (HAll.out ▸ (HO.out.lower (base' := w2.heap.size + 1) (by omega)).mono (S' := fun q => w2.heap.size < q) (fun q hq _ => by have hq : w4.heap.size ≤ q := hq; omega))
    obtain ⟨y, hy⟩ : ∃ y, y = kAX b s.result := ⟨_, rfl⟩; have HY := hJ hy; rw [← hy] at hs5 HG; clear hy
    have HS7 := hJ (hs5.mono (S' := fun q => w2.heap.size < q) (fun q hq _ => by have hq : w4.heap.size ≤ q := hq; omega))
    obtain ⟨a0, m0, c0, rfl⟩ := HO7.out.shape; clear HT HE HZ HO HAll hs5 HLr; have HT := HT0; have HG7 := HG; have HB7 := hJ hB; have HR7 := HRr; have HA7 := HAr; have hl7 := hlG; clear HT0 HG hB HRr HAr hlG HKeep HR4 HA4 HG4 HLs HBw
    rename World => w7
    go_wp2_with fail
    have HMore : Hid (∀ W : World, W.heap[w.heap.size]? = w7.heap[w.heap.size]? → W.cell? ⟨w.heap.size, 4, none⟩ = some (.slice aq m cq)) := hJ (fun W q => Bx.cell (w := W) (q.trans HA7.out) 4 _ rfl)
    go_loopw [11] (fun i wt => ∃ (k : Nat) (v0 : Value), k ≤ m ∧ i = .int .i64 k ∧ Hid (∀ j, j < k → kAD (kAF b (s.wh.getD j default)) = true) ∧ Hid (Own RLin 65 (fun q => w7.heap.size ≤ q) wt w7.heap.size v0 ((s.wh.take k).map (kAF b))) ∧ Hid (Bx wt w2.heap.size 41 [.slice a0 m0 c0, .string y.elem, .string y.shape.row, .slice a5 y.shape.dims.length c5, v0]) ∧ Below w2.heap.size w2 wt ∧ Hid (∀ q, q < w7.heap.size → q ≠ w2.heap.size → wt.heap[q]? = w7.heap[q]?) ∧ w7.heap.size ≤ wt.heap.size) (fun i _ => m - (intOf i).toNat)
    case atStart => exact ⟨0, _, Nat.zero_le _, rfl, hJ (fun i hi => absurd hi (by omega)), hJ (Own.nil _ _ _ _ _), HG7, HB7.out, hJ (fun _ _ _ => rfl), Nat.le_refl _⟩
    case round =>
     clear HG7; obtain ⟨k, v0, hk, rfl, HTw, HOw, HG, hB, HKeep, hsz⟩ := hrel; have HBw := hJ (HW.out.trans (hB.mono HW.out.size))
     have HRr : Hid (Bx wr _ _ _) := hJ ((HKeep.out _ HR7.out.lt (by omega)).trans HR7.out)
     have hlG := HG.out.lt; have hlR := HRr.out.lt; obtain ⟨a6, m6, c6, rfl⟩ := HOw.out.shape
     have y4 := HMore.out wr (HKeep.out _ (by omega) (by omega))
     by_cases hlt : k < m
     · obtain ⟨b1, off, rfl, hbW, _⟩ := HQs.out.form k hlt
       obtain ⟨t, hr, ⟨at_, ct, rfl, hts⟩, e0, e1⟩ := (HQs.out.below HBw.out).lin k hlt
       have HK : Hid (k < s.wh.length) := hJ (by rw [HM.out]; exact hlt)
       have HNext : Hid ((s.wh.take (k + 1)).map (kAF b) = (s.wh.take k).map (kAF b) ++ [kAF b (s.wh.getD k default)]) := hJ (by rw [kAU HK.out, List.map_append]; rfl)
       have hkl : ((s.wh.take k).map (kAF b)).length = k := by rw [List.length_map, List.length_take, HM.out]; omega
       have HBad := hJ (fun q => sch_badW (b := b) HK.out q)
       have HUp := hJ (fun q => upto HTw.out (p := fun j => kAD (kAF b (s.wh.getD j default)) = true) q)
       have HXv := hJ (HV.out.2.2.2.2 _ (kAI HK.out))
       generalize s.wh.getD k default = x at *
       generalize (s.wh.take k).map (kAF b) = lk at *
       have HCx := hJ (HCL.out _ HBw.out x _ hr HXv.out); clear hr hts
       cases hvx : kAD (kAF b x) with
       | false =>
         have HBd := hJ (HBad.out hvx); rw [(lim_bad hvx).2] at HCx; clear hvx
         generalize limL (kAF b x) = z at *
         go_wp2_with fail
         refine HCx.out.mono ?_
         rintro e w5 ⟨⟨_, rfl, hr5⟩, hb5⟩
         obtain ⟨_, rfl, a8, c8, rfl, hs5⟩ := hr5; have HR5 := hJ (HRr.out.below hb5 HRr.out.lt); obtain ⟨w8, hfold8⟩ : ∃ q, w5.alloc (.cells #[.int .i64 z.const, .slice a8 z.terms.length c8] 65) = q := ⟨_, rfl⟩; have HRw := hJ (HR5.out.alloc (.cells #[.int .i64 z.const, .slice a8 z.terms.length c8] 65)); rw [hfold8] at HRw
         have HWw : Hid (Below w.heap.size w w8) := hJ (by rw [← hfold8]; exact (HBw.out.trans (hb5.mono HBw.out.size)).alloc (by have := hb5.size; have := HBw.out.size; omega) _)
         have v0 := HRw.out.cell 0 _ rfl; have v1 := HRw.out.cell 1 _ rfl; have v2 := HRw.out.cell 2 _ rfl; have v3 := HRw.out.cell 3 _ rfl; have v4 := HRw.out.cell 4 _ rfl; have u0 := HRw.out.fz 0; have u1 := HRw.out.fz 1; have u2 := HRw.out.fz 2; have u3 := HRw.out.fz 3; have u4 := HRw.out.fz 4; have hlr := HRw.out.lt; have HX60 := hJ (((((HRw.out.set 0 (.slice none 0 0)).set 1 (.string ⟨#[]⟩)).set 2 (.string ⟨#[]⟩)).set 3 (.slice none 0 0)).set 4 (.slice none 0 0)); have s0 := HX60.out.cell 0 _ rfl; have s1 := HX60.out.cell 1 _ rfl; have s2 := HX60.out.cell 2 _ rfl; have s3 := HX60.out.cell 3 _ rfl; have s4 := HX60.out.cell 4 _ rfl
         go_wp2_with fail
         refine bodyPost_ret (v := .tuple #[.agg #[.slice none 0 0, .string ⟨#[]⟩, .string ⟨#[]⟩, .slice none 0 0, .slice none 0 0], .int .i64 3]) (by simp [results, results30, go_sem, s0, s1, s2, s3, s4, hlr]) rfl ?_
         refine ⟨⟨[.slice none 0 0, .string ⟨#[]⟩, .string ⟨#[]⟩, .slice none 0 0, .slice none 0 0], by rw [HBd.out.2], by rw [HBd.out.1]; exact kDP.no ..⟩, ?_⟩
         repeat (first | exact HWw.out | refine Below.setCell ?_ (by show _ ≤ w.heap.size + 1; omega) _)
       | true =>
         have HUp2 := hJ (HUp.out hvx); clear HUp; rw [(kDT hvx).1, (kDT hvx).2] at HCx; clear hvx HBad
         go_wp2_with fail
         refine HCx.out.mono ?_
         rintro e w5 ⟨⟨_, rfl, hr5⟩, hb5⟩
         obtain ⟨_, rfl, a8, c8, rfl, hs5⟩ := hr5
         generalize kAF b x = z at *
         obtain ⟨w8, hfold8⟩ : ∃ q, w5.alloc (.cells #[.int .i64 z.const, .slice a8 z.terms.length c8] 65) = q := ⟨_, rfl⟩
         have HB8 : Hid (Below wr.heap.size wr w8) := hJ (by rw [← hfold8]; exact hb5.alloc hb5.size _)
         have HP8 : Hid (Bx w8 w5.heap.size 65 [.int .i64 z.const, .slice a8 z.terms.length c8]) := hJ (by rw [← hfold8]; exact Bx.fresh _ _ _)
         have r0 := HP8.out.cell 0 _ rfl; have r1 := HP8.out.cell 1 _ rfl
         have HS8 : Hid (Sl kBP (fun q => wr.heap.size ≤ q) w8 a8 z.terms.length c8 z.terms) := hJ (hfold8 ▸ (hs5.below ((Below.refl _ _).alloc (Nat.le_refl _) (.cells #[.int .i64 z.const, .slice a8 z.terms.length c8] 65))))
         clear hs5 hb5; have HG8 := hJ (HG.out.below HB8.out hlG); have g4 := HG8.out.cell 4 _ rfl; have hs8 := HB8.out.size
         have HRY : Hid (RLin.rd (fun q => w7.heap.size ≤ q ∧ (Value.slice a6 m6 c6).ownBlock ≠ some q) w8 [.int .i64 z.const, .slice a8 z.terms.length c8] z) := hJ ⟨_, rfl, a8, c8, rfl, HS8.out.mono (fun q hq _ => ⟨by have : wr.heap.size ≤ q := hq; omega, fun e => by have h8 := (HOw.out.block e).2; have : wr.heap.size ≤ q := hq; omega⟩)⟩
         clear HS8
         go_wp2_with (at_builtin; refine kA8 kBJ rfl _ _ rfl w7.heap.size _ _ rfl ((HOw.out.below HB8.out).alloc _) _ z [.int .i64 z.const, .slice a8 z.terms.length c8] rfl (RLin.below HRY.out ((Below.refl _ _).alloc (Nat.le_refl _) _)) (kA4 65 (by (simp only [kAG, kAE, Array.getElem?_push, Array.size_push]; simp))) (by omega) (by unfold maxLen; omega) (by simp; omega) ?_; intro v9 w9 hown9 hb9 hk9; obtain ⟨a9, m9, c9, rfl⟩ := hown9.shape; have HG9 := hJ ((HG8.out.alloc _).kp hk9 (HOw.out.ne hl7)); have g9 := HG9.out.cell 4 _ rfl; have u9 := HG9.out.fz 4)
         go_roundw
         case rel => exact ⟨k + 1, _, by omega, by go_num, HUp2, hJ (by rw [HNext.out]; exact hown9.set _ (fun q hq => Nat.ne_of_gt (Nat.lt_of_lt_of_le hl7 hq)) hl7), hJ (HG9.out.set 4 _), ((hB.trans (HB8.out.mono hB.size)).trans (((Below.refl _ _).alloc (by omega) _).trans (hb9.mono (Nat.le_of_lt hl7)))).setCell (Nat.le_refl _) _, hJ (fun q hq hne => (kAA (fun e => hne e.symm)).trans ((((Below.refl _ _).alloc (B := w7.heap.size) (by omega) _).trans hb9).block q hq |>.trans ((HB8.out.block q (by omega)).trans (HKeep.out q hq hne)))), by have := hb9.size; simp at this ⊢; omega⟩
         case measure => simp [intOf]; omega
     · obtain rfl : k = m := by omega
       have HAll : Hid ((s.wh.take k).map (kAF b) = s.wh.map (kAF b)) := hJ (by rw [List.take_of_length_le (by rw [HM.out]; exact Nat.le_refl _)])
       rw [HAll.out] at HOw; obtain ⟨z1, z2⟩ := HGood.out HT.out HokR.out HTw.out; have HZ1 := hJ z1; have HZ2 := hJ z2; clear z1 z2; have g0 := HG.out.cell 0 _ rfl; have g1 := HG.out.cell 1 _ rfl; have g2 := HG.out.cell 2 _ rfl; have g3 := HG.out.cell 3 _ rfl; have g4 := HG.out.cell 4 _ rfl; have v0 := HRr.out.cell 0 _ rfl; have v1 := HRr.out.cell 1 _ rfl; have v2 := HRr.out.cell 2 _ rfl; have v3 := HRr.out.cell 3 _ rfl; have v4 := HRr.out.cell 4 _ rfl; have u0 := HRr.out.fz 0; have u1 := HRr.out.fz 1; have u2 := HRr.out.fz 2; have u3 := HRr.out.fz 3; have u4 := HRr.out.fz 4; have hlr := HRr.out.lt; have HX60 := hJ (((((HRr.out.set 0 (.slice a0 m0 c0)).set 1 (.string y.elem)).set 2 (.string y.shape.row)).set 3 (.slice a5 y.shape.dims.length c5)).set 4 (.slice a6 m6 c6)); have s0 := HX60.out.cell 0 _ rfl; have s1 := HX60.out.cell 1 _ rfl; have s2 := HX60.out.cell 2 _ rfl; have s3 := HX60.out.cell 3 _ rfl; have s4 := HX60.out.cell 4 _ rfl
       go_wp2_with fail
       refine bodyPost_ret (v := .tuple #[.agg #[.slice a0 m0 c0, .string y.elem, .string y.shape.row, .slice a5 y.shape.dims.length c5, .slice a6 m6 c6], .int .i64 0]) (by simp [results, results30, go_sem, s0, s1, s2, s3, s4, hlr]) rfl ?_
       refine ⟨⟨[.slice a0 m0 c0, .string y.elem, .string y.shape.row, .slice a5 y.shape.dims.length c5, .slice a6 m6 c6], by rw [HZ2.out], ?_⟩, ?_⟩
       · rw [HZ1.out]
         have q2 := (HS7.out.mono (S' := fun q => w2.heap.size < q ∧ q < w7.heap.size) (fun q hq hlt => ⟨hq, hlt⟩)).frame (w' := wr) (fun q hq hlt => HKeep.out q hlt (Nat.ne_of_gt hq.1))
         obtain ⟨a10, c10, e10, q1⟩ := HO7.out.sl
         have q1 := (q1.mono (S' := fun q => w2.heap.size < q ∧ q < w7.heap.size) (fun q hq hlt => ⟨hq.elim id id, hlt⟩)).frame (w' := wr) (fun q hq hlt => HKeep.out q hlt (Nat.ne_of_gt hq.1))
         rw [Value.slice.injEq] at e10; obtain ⟨rfl, rfl, rfl⟩ := e10
         have hR2 : ∀ {α : Type} {R : Rep α} {a : Option Addr} {n c : Nat} {l : List α}, Sl R (fun q => w2.heap.size < q ∧ q < w7.heap.size) wr a n c l → Sl R (fun k => w.heap.size ≤ k ∧ k < w7.heap.size) (((((wr.setCell ⟨w.heap.size + 1, 0, none⟩ (.slice a0 (s.params.map (kAX b)).length c0)).setCell ⟨w.heap.size + 1, 1, none⟩ (.string y.elem)).setCell ⟨w.heap.size + 1, 2, none⟩ (.string y.shape.row)).setCell ⟨w.heap.size + 1, 3, none⟩ (.slice a5 y.shape.dims.length c5)).setCell ⟨w.heap.size + 1, 4, none⟩ (.slice a6 m6 c6)) a n c l := by
          intro α R a n c l hs
          have hne : ∀ q, (w2.heap.size < q ∧ q < w7.heap.size) → w.heap.size + 1 ≠ q := fun q hq => by omega
          exact (((((hs.set hne).set hne).set hne).set hne).set hne).mono (fun q hq _ => by omega)
         have hS3 : ∀ q, w7.heap.size ≤ q → q ≠ w.heap.size + 1 := fun q hq => by omega
         have hl3 : w.heap.size + 1 < w7.heap.size := by omega
         refine ⟨w7.heap.size, _, _, _, by omega, by rw [HY.out]; rfl, ⟨a0, c0, rfl, hR2 q1⟩, ⟨a5, c5, by first | rfl | (rw [HY.out]; rfl), ?_⟩, ((((HOw.out.set _ hS3 hl3).set _ hS3 hl3).set _ hS3 hl3).set _ hS3 hl3).set _ hS3 hl3⟩
         have := hR2 q2
         show Sl RLin _ _ a5 (kAX b s.result).shape.dims.length c5 (kAX b s.result).shape.dims
         rw [← HY.out]
         exact this
       · repeat (first | exact HBw.out | refine Below.setCell ?_ (by show _ ≤ w.heap.size + 1; omega) _)
end Go.Proofs.YtjongcdlginjlaaGreatDoor
