/- The claim's texts, part 11: contracts of the functions that the statement reaches, and what they say of the data. -/
import Derived.Test.YtjongcdlginjlaaGreatDoorPm10
set_option maxRecDepth 100000
set_option maxHeartbeats 8000000
set_option linter.all false
namespace Go.Proofs.YtjongcdlginjlaaGreatDoor
open Go.Proofs.Tryz
open Go.RowKit
section
variable {P : Program} {ops : Array Oper} {Q : Exit → Act → World → Prop} {md : Region.Mode} {S : World → Prop} {L : Nat}
def Closed (md : Region.Mode) (ops : Array Oper) (listed : Array Bool) : Prop :=
 ∀ (k : Nat) (o : Oper), ops[k]? = some o → listed.getD k false = true → ∀ e ∈ o.after, Region.binds md e = true → listed.getD e.on false = true
def closedB (md : Region.Mode) (ops : Array Oper) (listed : Array Bool) : Bool :=
 (List.range ops.size).all fun k => !listed.getD k false || ((ops[k]?).map (·.after.all fun e => !Region.binds md e || listed.getD e.on false)).getD true
theorem closed_of {listed : Array Bool} (h : closedB md ops listed = true) : Closed md ops listed := fun k o ho hl e he hb => by
 have h1 := List.all_eq_true.1 h k (List.mem_range.2 (Array.getElem?_eq_some_iff.1 ho).1); rw [hl, ho] at h1
 simp only [Bool.not_true, Bool.false_or, Option.map_some, Option.getD_some] at h1
 have h2 := Array.all_eq_true_iff_forall_mem.1 h1 e he; rw [hb] at h2
 simpa using h2
theorem getD_both {listed : Array Bool} {j : Nat} (h : listed.getD j true = false) : j < listed.size := by
 rcases Nat.lt_or_ge j listed.size with h' | h'
 · exact h'
 · simp [Array.getElem?_eq_none h'] at h
theorem Closed.set {listed : Array Bool} {j : Nat} (h : Closed md ops listed) (hj : j ∈ Region.ready md ops listed) : Closed md ops (listed.setIfInBounds j true) := fun k o ho hl e he hb => by
 by_cases hk : j = k
 · subst hk
   obtain ⟨_, o', ho', h1⟩ := mem_ready.1 hj; rw [ho] at ho'
   cases ho'
   exact getD_set_true (h1 e he hb)
 · rw [getD_set_ne false hk] at hl
   exact getD_set_true (h k o ho hl e he hb)
def behind (md : Region.Mode) (ops : Array Oper) (i : Nat) : Nat → Nat → Bool
 | 0, _ => false
 | n + 1, x => match ops[x]? with
   | none => false
   | some o => o.after.any fun e => Region.binds md e && (e.on == i || behind md ops i n e.on)
theorem kG1 {i : Nat} {listed : Array Bool} (hc : Closed md ops listed) : ∀ (n x : Nat), behind md ops i n x = true → (∃ o, ops[x]? = some o ∧ ∀ e ∈ o.after, Region.binds md e = true → listed.getD e.on false = true) → listed.getD i false = true
 | 0, _, h, _ => by cases h
 | n + 1, x, h, ⟨o, ho, ha⟩ => by
   unfold behind at h
   rw [ho] at h; obtain ⟨e, he, h1⟩ := Array.any_eq_true'.1 h; rw [Bool.and_eq_true, Bool.or_eq_true] at h1; have h2 := ha e he h1.1
   rcases h1.2 with h3 | h3
   · rw [beq_iff_eq] at h3; rw [← h3]; exact h2
   · refine kG1 hc n e.on h3 ?_
     cases ho2 : ops[e.on]? with
     | none =>
       cases n with
       | zero => cases h3
       | succ n => unfold behind at h3; rw [ho2] at h3; cases h3
     | some o2 => exact ⟨o2, rfl, fun e2 he2 hb2 => hc _ _ ho2 h2 e2 he2 hb2⟩
def kE3 (P : Program) (md : Region.Mode) (ops : Array Oper) (Q : Exit → Act → World → Prop) (S : World → Prop) (L : Nat) : Nat → Array Bool → Act → World → Prop
 | 0, listed, a, w => Region.ready md ops listed = [] ∧ Q .normal a w
 | fuel + 1, listed, a, w =>
   (Region.ready md ops listed = [] → Q .normal a w) ∧
   ∀ i ∈ Region.ready md ops listed, wpOp P ops Q i (fun a' w' => (i ≠ L → S w') ∧ kE3 P md ops Q S L fuel (listed.setIfInBounds i true) a' w') a w
theorem wpAny_of_E : ∀ (fuel : Nat) (listed : Array Bool) (a : Act) (w : World), kE3 P md ops Q S L fuel listed a w → wpAny P md ops Q fuel listed a w
 | 0, _, _, _, h => h
 | fuel + 1, _, _, _, h => ⟨h.1, fun i hi => wpOp_mono (fun a' w' h' => wpAny_of_E fuel _ a' w' h'.2) (h.2 i hi)⟩
theorem wpAnyE_first {i : Nat} {oi : Oper} {v : Value} (hi : ops[i]? = some oi) (hsel : ∀ (j : Nat) (o : Oper) cs b, ops[j]? = some o → o.op ≠ .select cs b)
 (hQ : ∀ c a w, Q (.panic c) (a.put oi.dst v) w → Q (.panic c) a w) {n : Nat} (hb : behind md ops i n L = true) :
 ∀ (fuel : Nat) (listed : Array Bool) (a : Act) (w : World), Closed md ops listed →
  (∀ j oj, ops[j]? = some oj → j ≠ i → listed.getD j true = false → (∀ e ∈ oj.after, Region.binds md e = true → e.on ≠ i) → oi.apart ops oj = true) →
  i ∈ Region.ready md ops listed → YieldsIf P ops S oi v a → S w →
  kE3 P md ops Q S L fuel (listed.setIfInBounds i true) (a.put oi.dst v) w → kE3 P md ops Q S L (fuel + 1) listed a w := by
 intro fuel
 induction fuel with
 | zero =>
   intro listed a w _ _ hr hy hS H
   refine ⟨fun h => (by rw [h] at hr; cases hr), fun j hj => ?_⟩
   by_cases hji : j = i
   · subst hji; exact hy.wpOp hi hS ⟨fun _ => hS, H⟩
   · have := ready_mono hj hji
     rw [H.1] at this
     cases this
 | succ fuel ih =>
   intro listed a w hcl hfree hr hy hS H
   refine ⟨fun h => (by rw [h] at hr; cases hr), fun j hj => ?_⟩
   by_cases hji : j = i
   · subst hji; exact hy.wpOp hi hS ⟨fun _ => hS, H⟩
   · have hiun := (mem_ready.1 hr).1
     have hjL : j ≠ L := by
      rintro rfl
      have h1 := kG1 hcl n j hb (mem_ready.1 hj).2; have h2 := getD_both hiun
      simp [h2] at h1 hiun
      rw [h1] at hiun
      cases hiun
     have h1 := H.2 j (ready_mono hj hji); obtain ⟨hjun, oj, hoj, hall⟩ := mem_ready.1 hj
     have hnot : ∀ e ∈ oj.after, Region.binds md e = true → e.on ≠ i := fun e he hb heq => by
      have h1 := hall e he hb; rw [heq] at h1; have h2 := getD_both hiun
      simp [h2] at h1 hiun
      rw [h1] at hiun
      cases hiun
     have h2 := wpOp_putIf hoj (hfree j oj hoj hji hjun hnot) (fun cs b => hsel i oi cs b hi) (fun cs b => hsel j oj cs b hoj) hQ hy h1
     have hfree' : ∀ k ok, ops[k]? = some ok → k ≠ i → (listed.setIfInBounds j true).getD k true = false →
      (∀ e ∈ ok.after, Region.binds md e = true → e.on ≠ i) → oi.apart ops ok = true := fun k ok hk hki hun hno => by
      refine hfree k ok hk hki ?_ hno
      by_cases hjk : j = k
      · subst hjk; exact hjun
      · rw [getD_set_ne true hjk] at hun; exact hun
     refine wpOp_mono (fun a' w' h3 => ⟨fun _ => h3.2.1 hjL, ih (listed.setIfInBounds j true) a' w' (hcl.set hj) hfree' (ready_mono hr (Ne.symm hji)) h3.1 (h3.2.1 hjL) ?_⟩) h2
     rw [Array.setIfInBounds_comm _ _ hji]
     exact h3.2.2
theorem kAM {i : Nat} {oi : Oper} {v : Value} {fuel : Nat} {listed : Array Bool} {a : Act} {w : World} (hi : ops[i]? = some oi)
 (hs : Region.noSelect ops = true) (hc : closedB md ops listed = true) (hb : behind md ops i ops.size L = true) (hf : Region.free md ops listed i = true) (hr : (Region.ready md ops listed).contains i = true)
 (hQ : ∀ c a w, Q (.panic c) (a.put oi.dst v) w → Q (.panic c) a w) (hy : YieldsIf P ops S oi v a) (hS : S w)
 (h : kE3 P md ops Q S L fuel (listed.setIfInBounds i true) (a.put oi.dst v) w) : kE3 P md ops Q S L (fuel + 1) listed a w :=
 wpAnyE_first hi (Region.noSelect_spec hs) hQ hb fuel listed a w (closed_of hc) (Region.free_spec hi hf) (by simpa using hr) hy hS h
def kAH (P : Program) (md : Region.Mode) (ops : Array Oper) (Q : Exit → Act → World → Prop) (S : World → Prop) (L : Nat) (fuel : Nat) (listed : Array Bool) (a : Act) (w : World) (rs : List Nat) : Prop :=
 ∀ i ∈ rs, wpOp P ops Q i (fun a' w' => (i ≠ L → S w') ∧ kE3 P md ops Q S L fuel (listed.setIfInBounds i true) a' w') a w
theorem kAH.nil {fuel : Nat} {listed : Array Bool} {a : Act} {w : World} : kAH P md ops Q S L fuel listed a w [] := fun _ h => by cases h
theorem kAH.cons {fuel : Nat} {listed : Array Bool} {a : Act} {w : World} {i : Nat} {o : Oper} {rs : List Nat} (ho : ops[i]? = some o)
 (h : ∀ K' : Act → World → Prop, Shut (∀ a w, (i ≠ L → S w) → kE3 P md ops Q S L fuel (listed.setIfInBounds i true) a w → K' a w) → if Region.wanted o (yielded ops a.tmps) = true then Oper.wp P o a w K' Q else K' (a.put o.dst undef) w)
 (hs : kAH P md ops Q S L fuel listed a w rs) : kAH P md ops Q S L fuel listed a w (i :: rs) := fun j hj => by
 rcases List.mem_cons.1 hj with rfl | hj
 · exact wpOp_step ho (fun K' hK => h K' (fun a w hS hW => hK a w ⟨hS, hW⟩))
 · exact hs j hj
theorem kAO {rs : List Nat} {fuel : Nat} {listed : Array Bool} {a : Act} {w : World} (hr : Region.ready md ops listed = rs) (hne : rs ≠ [])
 (h : kAH P md ops Q S L fuel listed a w rs) : kE3 P md ops Q S L (fuel + 1) listed a w :=
 ⟨fun h0 => absurd (hr ▸ h0) hne, by rw [hr]; exact h⟩
theorem kCW {listed : Array Bool} {a : Act} {w : World} (hr : Region.ready md ops listed = []) (h : Q .normal a w) :
 ∀ fuel, kE3 P md ops Q S L fuel listed a w
 | 0 => ⟨hr, h⟩
 | _ + 1 => ⟨fun _ => h, by rw [hr]; simp⟩
theorem wp_region_E (L : Nat) (S : World → Prop) {id : Nat} {a : Act} {w : World} (hm : P.follows .mixedOrders = true)
 (h : kE3 P .any ops Q S L ops.size (Array.replicate ops.size false) a w.drew) : (Code.region id ops true).wp P Q a w :=
 wp_region_any hm (wpAny_of_E _ _ _ _ h)
end
theorem kFN {α : Type} {R : Rep α} {E : TypeId} {W : World} {base gO : Nat} {v : Value} {l : List α} (h : Own R E (fun q => gO < q) W base v l) (hb : gO < base) (u : Value) : Own R E (fun q => gO < q) (W.setCell ⟨gO, 1, none⟩ u) base v l :=
 h.set u (fun k hk e => by have : k = gO := e; omega) hb
theorem ref57_Make {S : Blk} {w : World} {mod : Str} {l : List Ent} {a : Option Addr} {n c : Nat} (h : Sl REnt S w a n c l) (hn : n ≤ 12) (hz : ∀ e ∈ l, szS e.scheme ∧ e.name.size ≤ 281474976710656 ∧ e.scheme.params.length ≤ 1000000 ∧ (kAJ e.scheme = true → e.scheme.wh.length ≤ 100)) (hmz : mod.size ≤ 281474976710656) :
 Calls Tryz.prog 15 #[.string mod, .slice a n c] w fun e w' => (∃ (A : Ifc) (ev : Int) (a' : Option Addr) (c' : Nat), e = .returned (.tuple #[.agg #[.string A.module_, .slice a' A.entries.length c'], .int .i64 ev]) ∧ Says mod l A ev ∧ Sl REnt (fun k => w.heap.size ≤ k) w' a' A.entries.length c' A.entries) ∧ Below w.heap.size w w' := by
 have HN := hJ h.len; have HS := hJ h; have HZ := hJ hz; clear h hz
 cases hmn : kA0 mod with
 | false =>
   have HSb : Hid (Says mod l kCL 1) := hJ (made_bad hmn)
   obtain ⟨B0, ya, hW0⟩ := box1 w 24 [.string ⟨#[]⟩, .slice none 0 0]; have xa0 := box0 ya 0 _ rfl; have xa1 := box0 ya 1 _ rfl
   have bka : Bx _ _ _ _ := ya
   clear ya; have HR2 := hJ bka; have HB2 := B0; clear bka xa0 xa1 hW0
   go_enter func15, ntmps15
   go_wp2_with fail
   refine (kBH _ _ hmz).mono ?_
   rintro e _ ⟨rfl, rfl⟩
   have z0 := HR2.out.cell 0 _ rfl; have z1 := HR2.out.cell 1 _ rfl; have f0 := HR2.out.fz 0; have f1 := HR2.out.fz 1; have hl0 := HR2.out.lt; have HZz := hJ ((HR2.out.set 0 (.string ⟨#[]⟩)).set 1 (.slice none 0 0)); have s0 := HZz.out.cell 0 _ rfl; have s1 := HZz.out.cell 1 _ rfl
   go_wp2_with fail
   refine bodyPost_ret (v := .tuple #[.agg #[.string ⟨#[]⟩, .slice none 0 0], .int .i64 1]) (by simp [results, results15, go_sem, s0, s1, hl0]) rfl ?_
   refine ⟨⟨kCL, 1, none, 0, rfl, HSb.out, Sl.empty _ _ _⟩, ?_⟩
   repeat (first | exact HB2.out | refine Below.setCell ?_ (by show w.heap.size ≤ w.heap.size; omega) _)
 | true =>
   have HMn := hJ hmn; obtain ⟨B0, ya, yb, hW0⟩ := box2 w 24 [.string ⟨#[]⟩, .slice none 0 0] 24 [.string mod, .slice none 0 0]; have xa0 := box0 ya 0 _ rfl; have xa1 := box0 ya 1 _ rfl; have xb0 := box0 yb 0 _ rfl; have xb1 := box0 yb 1 _ rfl
   have bka : Bx _ _ _ _ := ya; have bkb : Bx _ _ _ _ := yb
   clear ya yb; have HR0 := hJ bka; have HO0 := hJ bkb; clear bka bkb xa0 xa1 xb0 xb1
   go_enter func15, ntmps15
   go_wp2_with fail
   refine (kBH _ _ hmz).mono ?_
   rintro e _ ⟨rfl, rfl⟩
   go_wp2_with fail
   clear hmn
   generalize ((w.alloc (.cells #[.string ⟨#[]⟩, .slice none 0 0] 24)).alloc (.cells #[.string mod, .slice none 0 0] 24)) = W at *
   go_loopw [7] (fun i wr => ∃ k : Nat, k ≤ n ∧ i = .int .i64 k ∧ Hid (∀ j, j < k → (kA0 (l.getD j default).name && kAJ (l.getD j default).scheme) = true) ∧ Hid (Bx wr w.heap.size 24 [.string ⟨#[]⟩, .slice none 0 0]) ∧ Hid (Bx wr (w.heap.size + 1) 24 [.string mod, .slice none 0 0]) ∧ Below w.heap.size w wr ∧ w.heap.size + 2 ≤ wr.heap.size) (fun i _ => n - (intOf i).toNat)
   case atStart => exact ⟨0, Nat.zero_le _, rfl, hJ (fun j hj => absurd hj (by omega)), HR0, HO0, B0.out, by omega⟩
   case round =>
    obtain ⟨k, hk, rfl, HT, HR, HO, hB, hsz⟩ := hrel; clear HR0 HO0 B0 hW0
    by_cases hlt : k < n
    · obtain ⟨b, off, rfl, hbW, _⟩ := HS.out.form k hlt
      obtain ⟨_, _, _, hr, ⟨⟨ap, cp, rfl, _⟩, ⟨at_, ct, rfl, _⟩, ⟨aq, cq, rfl, _⟩⟩, c0, c1, c2, c3, c4, c5⟩ := (HS.out.below hB).ent k hlt; obtain ⟨_, e1, hr⟩ := hr
      cases e1
      have HK : Hid (k < l.length) := hJ (by rw [HN.out]; exact hlt)
      have hzt := HZ.out _ (kAI HK.out); have hnz := hzt.2.1; have HC := hJ (kB0 hr hzt.1 hzt.2.2.1)
      have HBad : Hid ((kA0 (l.getD k default).name && kAJ (l.getD k default).scheme) = false → Says mod l kCL 1) := hJ (fun q => made_bad2 HK.out q)
      have HTn := hJ (fun q => upto HT.out (p := fun j => (kA0 (l.getD j default).name && kAJ (l.getD j default).scheme) = true) q)
      clear hr hzt
      generalize l.getD k default = t at *
      cases hnm : kA0 t.name with
      | false =>
        have HSb := hJ (HBad.out (by rw [hnm]; rfl))
        have HB2 := hJ hB; have HR2 := HR; clear HTn HBad HR
        go_wp2_with fail
        refine (kBH _ _ hnz).mono ?_
        rintro e _ ⟨rfl, rfl⟩
        have z0 := HR2.out.cell 0 _ rfl; have z1 := HR2.out.cell 1 _ rfl; have f0 := HR2.out.fz 0; have f1 := HR2.out.fz 1; have hl0 := HR2.out.lt; have HZz := hJ ((HR2.out.set 0 (.string ⟨#[]⟩)).set 1 (.slice none 0 0)); have s0 := HZz.out.cell 0 _ rfl; have s1 := HZz.out.cell 1 _ rfl
        go_wp2_with fail
        refine bodyPost_ret (v := .tuple #[.agg #[.string ⟨#[]⟩, .slice none 0 0], .int .i64 1]) (by simp [results, results15, go_sem, s0, s1, hl0]) rfl ?_
        refine ⟨⟨kCL, 1, none, 0, rfl, HSb.out, Sl.empty _ _ _⟩, ?_⟩
        repeat (first | exact HB2.out | refine Below.setCell ?_ (by show w.heap.size ≤ w.heap.size; omega) _)
      | true =>
        go_wp2_with fail
        refine (kBH _ _ hnz).mono ?_
        rintro e _ ⟨rfl, rfl⟩
        go_wp2_with fail
        refine HC.out.mono ?_
        rintro e w2 ⟨rfl, hb2⟩
        have HB2 := hJ (hB.trans (hb2.mono hB.size)); have HR2 := hJ (HR.out.below hb2 HR.out.lt); have HO2 := hJ (HO.out.below hb2 HO.out.lt); have hz2 := hb2.size; clear hb2 HC HR HO c0 c1 c2 c3 c4 c5
        cases hv : kAJ t.scheme with
        | false =>
          have HSb := hJ (HBad.out (by rw [hnm, hv]; rfl))
          clear HTn HBad; have z0 := HR2.out.cell 0 _ rfl; have z1 := HR2.out.cell 1 _ rfl; have f0 := HR2.out.fz 0; have f1 := HR2.out.fz 1; have hl0 := HR2.out.lt; have HZz := hJ ((HR2.out.set 0 (.string ⟨#[]⟩)).set 1 (.slice none 0 0)); have s0 := HZz.out.cell 0 _ rfl; have s1 := HZz.out.cell 1 _ rfl
          go_wp2_with fail
          refine bodyPost_ret (v := .tuple #[.agg #[.string ⟨#[]⟩, .slice none 0 0], .int .i64 1]) (by simp [results, results15, go_sem, s0, s1, hl0]) rfl ?_
          refine ⟨⟨kCL, 1, none, 0, rfl, HSb.out, Sl.empty _ _ _⟩, ?_⟩
          repeat (first | exact HB2.out | refine Below.setCell ?_ (by show w.heap.size ≤ w.heap.size; omega) _)
        | true =>
          have HTm := hJ (HTn.out (by rw [hnm, hv]; rfl))
          go_wp2_with fail
          go_roundw
          case rel => exact ⟨k + 1, by omega, by go_num, HTm, HR2, HO2, HB2.out, by omega⟩
          case measure => simp [intOf]; omega
    · obtain rfl : k = n := by omega
      have HOk : Hid (mkOk mod l = true) := hJ (ok_all HMn.out (fun i hi => HT.out i (by rw [HN.out] at hi; exact hi)))
      have HVal : Hid (∀ i, i < k → kAJ (l.getD i default).scheme = true) := hJ (fun i hi => by have := HT.out i hi; rw [Bool.and_eq_true] at this; exact this.2)
      clear HT HMn
      go_wp2_with fail
      go_loopw [8] (fun i wr => ∃ (i0 : Nat) (m : List Ent) (vO : Value), i0 ≤ k ∧ i = .int .i64 i0 ∧ Hid (Made l i0 m) ∧ Hid (Own REnt 44 (fun q => w.heap.size + 1 < q) wr (w.heap.size + 2) vO (m.map canE)) ∧ Hid (m.length = 0 → vO = .slice none 0 0) ∧ Hid (Bx wr w.heap.size 24 [.string ⟨#[]⟩, .slice none 0 0]) ∧ Hid (Bx wr (w.heap.size + 1) 24 [.string mod, vO]) ∧ Below w.heap.size w wr ∧ w.heap.size + 2 ≤ wr.heap.size) (fun i _ => k - (intOf i).toNat)
      case atStart => exact ⟨0, [], _, Nat.zero_le _, rfl, hJ (Made.nil l), hJ (Own.nil _ _ _ _ _), hJ (fun _ => rfl), HR, HO, hB, hsz⟩
      case round =>
       clear hB hsz HR HO; obtain ⟨i0, m, vO, hi0, rfl, HM, HOw, HNl, HR, HO, hB, hsz⟩ := hrel
       obtain ⟨ao, M, co, hvs, hso⟩ : ∃ ao M co, vO = .slice ao M co ∧ Sl REnt (fun q => w.heap.size + 1 < q ∨ w.heap.size + 2 ≤ q) wr ao M co (m.map canE) ∧ M = (m.map canE).length ∧ M = m.length ∧ Els REnt (fun q => w.heap.size + 1 < q) wr ao M co (m.map canE) := by
        obtain ⟨ao, co, e, hs⟩ := HOw.out.sl; obtain ⟨_, _, e2, hs2⟩ := HOw.out.els; rw [e] at e2; rw [Value.slice.injEq] at e2; obtain ⟨rfl, -, rfl⟩ := e2
        exact ⟨ao, _, co, e, hs, rfl, List.length_map _, hs2.mono (fun k hk _ => hk.1)⟩
       subst hvs; have HOs := hJ hso.1; have HMl := hJ hso.2.1; have HMm := hJ hso.2.2.1; have HEl := hJ hso.2.2.2; clear hso
       have hM : M ≤ 12 := by have h1 := HM.out.len (by rw [HN.out]; exact hi0); have h2 := HMm.out; omega
       by_cases hlt2 : i0 < k
       · obtain ⟨b, off, rfl, hbW, _⟩ := HS.out.form i0 hlt2
         obtain ⟨_, _, _, hr, ⟨⟨ap, cp, rfl, _⟩, ⟨at_, ct, rfl, _⟩, ⟨aq, cq, rfl, _⟩⟩, c0, c1, c2, c3, c4, c5⟩ := (HS.out.below hB).ent i0 hlt2; obtain ⟨_, e1, hr⟩ := hr
         cases e1
         have HK : Hid (i0 < l.length) := hJ (by rw [HN.out]; exact hlt2)
         have hzt := HZ.out _ (kAI HK.out)
         have HErr : Hid (kDY (l.getD i0 default).scheme = 0) := hJ (can_err _ (HVal.out i0 hlt2))
         have HC0 := ref12_Canonical hr hzt.1 hzt.2.2.1 hzt.2.2.2; rw [HErr.out] at HC0; have HC := hJ HC0
         have HCe : Hid (canE (l.getD i0 default) = ⟨(l.getD i0 default).name, can (l.getD i0 default).scheme⟩) := hJ rfl
         have HPut : Hid (∀ p, (∀ j, j < p → slt (m.getD j default).name (l.getD i0 default).name = true) → (p < m.length → slt (m.getD p default).name (l.getD i0 default).name = false ∧ seq (m.getD p default).name (l.getD i0 default).name = false) → Made l (i0 + 1) (putE m p (l.getD i0 default))) := hJ (fun p h1 h2 => HM.out.put HK.out h1 h2)
         have HTw : Hid (∀ p, p < m.length → seq (m.getD p default).name (l.getD i0 default).name = true → Says mod l kCL 8) := hJ (fun p h1 h2 => made_twice HOk.out HM.out HK.out h1 h2)
         clear hr hzt HErr HC0
         generalize l.getD i0 default = x at *
         have d1 := HO.out.cell 1 _ rfl
         go_wp2_with fail
         refine HC.out.mono ?_
         rintro e w2 ⟨⟨ds, rfl, hds⟩, hb2⟩
         generalize hcx : can x.scheme = cx at *
         obtain ⟨_, _, _, rfl, ⟨p5, pc5, rfl, hp5⟩, ⟨t5, tc5, rfl, ht5⟩, ⟨q5, qc5, rfl, hq5⟩⟩ := hds; have hcn := kAC c0 _ hb2; have HB2 := hJ (hB.trans (hb2.mono hB.size)); have hz2 := hb2.size; have HR2 := hJ (HR.out.below hb2 HR.out.lt); have HO2 := hJ (HO.out.below hb2 HO.out.lt); have HOs2 := hJ (HOs.out.below hb2); have HEl2 := hJ (HEl.out.below hb2)
         have HCx : Hid (REnt.rd (fun q => w.heap.size + 1 < q) w2 [.string x.name, .slice p5 cx.params.length pc5, .string cx.result.elem, .string cx.result.shape.row, .slice t5 cx.result.shape.dims.length tc5, .slice q5 cx.wh.length qc5] (canE x)) := hJ (by
          rw [HCe.out]
          exact REnt.mono (S := fun q => wr.heap.size ≤ q) ⟨_, rfl, _, _, _, rfl, ⟨p5, pc5, rfl, hp5⟩, ⟨t5, tc5, rfl, ht5⟩, ⟨q5, qc5, rfl, hq5⟩⟩ (fun q hq _ => by omega))
         have HY : Hid ((canE x).name = x.name) := hJ rfl
         have hW3 : Below w2.heap.size w2 (w2.alloc (.cells #[.slice p5 cx.params.length pc5, .string cx.result.elem, .string cx.result.shape.row, .slice t5 cx.result.shape.dims.length tc5, .slice q5 cx.wh.length qc5] 41)) := (Below.refl _ _).alloc (Nat.le_refl _) _
         have HX9 := hJ (Bx.fresh w2 41 [.slice p5 cx.params.length pc5, .string cx.result.elem, .string cx.result.shape.row, .slice t5 cx.result.shape.dims.length tc5, .slice q5 cx.wh.length qc5]); have HB3 := hJ (HB2.out.trans (hW3.mono HB2.out.size)); have HR3 := hJ (HR2.out.below hW3 HR2.out.lt); have HO3 := hJ (HO2.out.below hW3 HO2.out.lt); have HOs3 := hJ (HOs2.out.below hW3); have HEl3 := hJ (HEl2.out.below hW3); have HCx3 := hJ (REnt.below HCx.out hW3); have hcn3 := kAC hcn _ hW3; have hz3 := hW3.size
         have HOut : Hid (∀ p, (([] ++ (m.map canE).take p) ++ [canE x]) ++ (m.map canE).drop p = (putE m p x).map canE) := hJ (fun p => by rw [putE_map]; simp)
         have HNa : Hid (∀ p, ((m.map canE).getD p default).name = (m.getD p default).name) := hJ (fun p => canE_name m p)
         clear hp5 ht5 hq5 hb2 c0 c1 c2 c3 c4 c5 d1 hB HC HR HO HOs HEl HOw hcx HCe hcn HB2 HR2 HO2 HOs2 HEl2 HCx
         generalize canE x = ce at *
         generalize m.map canE = out at *
         go_wp2_with fail
         clear hW3
         generalize (w2.alloc (.cells #[.slice p5 cx.params.length pc5, .string cx.result.elem, .string cx.result.shape.row, .slice t5 cx.result.shape.dims.length tc5, .slice q5 cx.wh.length qc5] 41)) = W3 at *
         go_loopw [11] (fun kv wq => ∃ p : Nat, p ≤ M ∧ kv = .int .i64 p ∧ Hid (∀ j, j < p → slt (m.getD j default).name x.name = true) ∧ Below W3.heap.size W3 wq) (fun kv _ => M - (intOf kv).toNat)
         case atStart => exact ⟨0, Nat.zero_le _, rfl, hJ (fun j hj => absurd hj (by omega)), Below.refl _ _⟩
         case round =>
          obtain ⟨p, hp, rfl, HT, hBq⟩ := hrel; have o1 := kAC (HO3.out.cell 1 _ rfl) _ hBq; have n0 := kAC hcn3 _ hBq; have hzq := hBq.size
          by_cases hpm : p < M
          · obtain ⟨g, og, rfl, hgW, _⟩ := HOs3.out.form p hpm
            obtain ⟨_, _, _, _, _, y0, _⟩ := (HOs3.out.below hBq).ent p hpm; have HNp := hJ (HNa.out p)
            have HTn := hJ (fun q => upto HT.out (p := fun j => slt (m.getD j default).name x.name = true) q)
            generalize out.getD p default = u at *
            have hpi : (p : Int) < (M : Int) := by omega
            have O1 := Later.cell o1; have N0 := Later.cell n0; have Y0 := Later.cell y0
            by_cases ho : Op.bytesLess u.name.toList x.name.toList = true
            · have HTm := hJ (HTn.out (by rw [← HNp.out]; exact ho))
              clear HTn
              go_wp2_with fail
              refine kAB (by kernel_rfl) (by kernel_rfl) ?_
              repeat (go_big_quiet_step (fail))
              refine wpQuiet_nil ?_
              rintro _ ⟨t9, rfl⟩
              go_wp2_with fail
              go_roundw
              case rel => exact ⟨p + 1, by omega, by go_num, HTm, hBq.trans (t9.b.mono hzq)⟩
              case measure => simp [intOf]; omega
            · have ho : Op.bytesLess u.name.toList x.name.toList = false := by simpa using ho
              have HSl : Hid (slt (m.getD p default).name x.name = false) := hJ (by rw [← HNp.out]; exact ho)
              clear HTn
              go_wp2_with fail
              refine kAB (by kernel_rfl) (by kernel_rfl) ?_
              repeat (go_big_quiet_step (fail))
              refine wpQuiet_nil ?_
              rintro _ ⟨t9, rfl⟩
              have HBz : Hid (Below W3.heap.size W3 t9.w) := hJ (hBq.trans (t9.b.mono hzq))
              have o1 := kAC o1 _ t9.b; have n0 := kAC n0 _ t9.b; have y0 := kAC y0 _ t9.b; clear O1 N0 Y0
              generalize t9.w = wz at *
              have O1 := Later.cell o1; have N0 := Later.cell n0; have Y0 := Later.cell y0
              by_cases hq : (u.name.toList == x.name.toList) = true
              · have HSb := hJ (HTw.out p (by rw [← HMm.out]; exact hpm) (by rw [← HNp.out]; exact hq))
                go_wp2_with fail
                refine kAB (by kernel_rfl) (by kernel_rfl) ?_
                repeat (go_big_quiet_step (fail))
                refine wpQuiet_nil ?_
                rintro _ ⟨t9, rfl⟩
                have HBy := hJ (HBz.out.trans (t9.b.mono HBz.out.size)); have HR2 := hJ (HR3.out.below HBy.out HR3.out.lt); have HB2 := hJ (HB3.out.trans (HBy.out.mono HB3.out.size)); have z0 := HR2.out.cell 0 _ rfl; have z1 := HR2.out.cell 1 _ rfl; have f0 := HR2.out.fz 0; have f1 := HR2.out.fz 1; have hl0 := HR2.out.lt; have HZz := hJ ((HR2.out.set 0 (.string ⟨#[]⟩)).set 1 (.slice none 0 0)); have s0 := HZz.out.cell 0 _ rfl; have s1 := HZz.out.cell 1 _ rfl
                go_wp2_with fail
                refine bodyPost_ret (v := .tuple #[.agg #[.string ⟨#[]⟩, .slice none 0 0], .int .i64 8]) (by simp [results, results15, go_sem, s0, s1, hl0]) rfl ?_
                refine ⟨⟨kCL, 8, none, 0, rfl, HSb.out, Sl.empty _ _ _⟩, ?_⟩
                repeat (first | exact HB2.out | refine Below.setCell ?_ (by show w.heap.size ≤ w.heap.size; omega) _)
              · have hq : (u.name.toList == x.name.toList) = false := by simpa using hq
                have HPu := hJ (HPut.out p HT.out (fun _ => ⟨HSl.out, by rw [← HNp.out]; exact hq⟩))
                go_wp2_with fail
                refine kAB (by kernel_rfl) (by kernel_rfl) ?_
                repeat (go_big_quiet_step (fail))
                refine wpQuiet_nil ?_
                rintro _ ⟨t9, rfl⟩
                have HBi := hJ (HBz.out.trans (t9.b.mono HBz.out.size)); clear O1 N0 Y0 o1 n0 y0 HTw HPut HSl HNp HBz hBq hzq
                generalize t9.w = wi at *
                have HRi := hJ (HR3.out.below HBi.out HR3.out.lt); have HOi := hJ (HO3.out.below HBi.out HO3.out.lt); have HXi := hJ (HX9.out.below HBi.out HX9.out.lt)
                have HEi := hJ ((HEl3.out.below HBi.out).mono (S' := fun q => w.heap.size + 1 < q ∧ q < wi.heap.size) (fun q hq hlt => ⟨hq, hlt⟩))
                have HCi := hJ (REnt.mono (S' := fun q => w.heap.size + 1 < q ∧ q < wi.heap.size) (REnt.below HCx3.out HBi.out) (fun q hq hlt => ⟨hq, hlt⟩))
                have k1 := kAC hcn3 _ HBi.out; have hzi := HBi.out.size; have k2 := HXi.out.cell 0 _ rfl; have k3 := HXi.out.cell 1 _ rfl; have k4 := HXi.out.cell 2 _ rfl; have k5 := HXi.out.cell 3 _ rfl; have k6 := HXi.out.cell 4 _ rfl; have k0 := HOi.out.cell 1 _ rfl
                have hlo : w.heap.size + 1 < wi.heap.size := HOi.out.lt
                have hlx : w2.heap.size < wi.heap.size := HXi.out.lt
                have hlb : b < wi.heap.size := by omega
                clear HEl3 HCx3 HX9 hcn3 HOs3
                have HNo : Hid (M = 0 → (some ⟨g, og, none⟩ : Option Addr) = none) := hJ (fun h => by omega)
                have HFo : Hid (0 < M → ∃ g' og', (some ⟨g, og, none⟩ : Option Addr) = some ⟨g', og', none⟩) := hJ (fun _ => ⟨_, _, rfl⟩)
                obtain ⟨a1, c1, a2, c2, hs1, hs2, HTk, HDr⟩ := els_cut kBI HEi.out p hp HNo.out HFo.out; have HL6 := hJ (HOut.out p)
                have HLt : Hid (([] ++ out.take p).length ≤ 12 ∧ (([] ++ out.take p) ++ [ce]).length + (M - p) ≤ 26) := hJ (by have h1 := HMl.out; constructor <;> simp <;> omega)
                go_wp2_with fail
                refine wp_region_E 21 (fun W => Below wi.heap.size wi W) (by kernel_rfl) ?_
                have hHd := (Below.refl wi.heap.size wi).drew
                refine kAM (i := 1) (v := ?_) rfl (by kernel_rfl) (by kernel_rfl) (by kernel_rfl) (by kernel_rfl) (by kernel_rfl) (fun _ _ _ h => h) (Or.inl ⟨by rfl, ?_⟩) hHd ?_
                rotate_left
                · (intro W hSw; skip; clear hSw; go_simp; first | done | (with_reducible rfl))
                try simp only [Act.put, List.setIfInBounds_toArray, List.set_cons_zero, List.set_cons_succ]
                refine kAM (i := 2) (v := ?_) rfl (by kernel_rfl) (by kernel_rfl) (by kernel_rfl) (by kernel_rfl) (by kernel_rfl) (fun _ _ _ h => h) (Or.inl ⟨by rfl, ?_⟩) hHd ?_
                rotate_left
                · (intro W hSw; have j0 := kAC k0 _ hSw; clear hSw; go_simp; first | done | (with_reducible rfl))
                try simp only [Act.put, List.setIfInBounds_toArray, List.set_cons_zero, List.set_cons_succ]
                refine kAM (i := 3) (v := ?_) rfl (by kernel_rfl) (by kernel_rfl) (by kernel_rfl) (by kernel_rfl) (by kernel_rfl) (fun _ _ _ h => h) (Or.inl ⟨by rfl, ?_⟩) hHd ?_
                rotate_left
                · (intro W hSw; skip; clear hSw; go_simp; first | done | (with_reducible rfl))
                try simp only [Act.put, List.setIfInBounds_toArray, List.set_cons_zero, List.set_cons_succ]
                refine kAM (i := 4) (v := ?_) rfl (by kernel_rfl) (by kernel_rfl) (by kernel_rfl) (by kernel_rfl) (by kernel_rfl) (fun _ _ _ h => h) (Or.inl ⟨by rfl, ?_⟩) hHd ?_
                rotate_left
                · (intro W hSw; skip; clear hSw; go_simp; first | done | (with_reducible rfl))
                try simp only [Act.put, List.setIfInBounds_toArray, List.set_cons_zero, List.set_cons_succ]
                refine kAM (i := 6) (v := ?_) rfl (by kernel_rfl) (by kernel_rfl) (by kernel_rfl) (by kernel_rfl) (by kernel_rfl) (fun _ _ _ h => h) (Or.inl ⟨by rfl, ?_⟩) hHd ?_
                rotate_left
                · (intro W hSw; skip; clear hSw; go_simp; first | done | (with_reducible rfl))
                try simp only [Act.put, List.setIfInBounds_toArray, List.set_cons_zero, List.set_cons_succ]
                refine kAM (i := 7) (v := ?_) rfl (by kernel_rfl) (by kernel_rfl) (by kernel_rfl) (by kernel_rfl) (by kernel_rfl) (fun _ _ _ h => h) (Or.inl ⟨by rfl, ?_⟩) hHd ?_
                rotate_left
                · (intro W hSw; skip; clear hSw; go_simp; first | done | (with_reducible rfl))
                try simp only [Act.put, List.setIfInBounds_toArray, List.set_cons_zero, List.set_cons_succ]
                refine kAM (i := 8) (v := ?_) rfl (by kernel_rfl) (by kernel_rfl) (by kernel_rfl) (by kernel_rfl) (by kernel_rfl) (fun _ _ _ h => h) (Or.inl ⟨by rfl, ?_⟩) hHd ?_
                rotate_left
                · (intro W hSw; skip; clear hSw; go_simp; first | done | (with_reducible rfl))
                try simp only [Act.put, List.setIfInBounds_toArray, List.set_cons_zero, List.set_cons_succ]
                refine kAM (i := 9) (v := ?_) rfl (by kernel_rfl) (by kernel_rfl) (by kernel_rfl) (by kernel_rfl) (by kernel_rfl) (fun _ _ _ h => h) (Or.inl ⟨by rfl, ?_⟩) hHd ?_
                rotate_left
                · (intro W hSw; skip; clear hSw; go_simp; first | done | (with_reducible rfl))
                try simp only [Act.put, List.setIfInBounds_toArray, List.set_cons_zero, List.set_cons_succ]
                refine kAM (i := 10) (v := ?_) rfl (by kernel_rfl) (by kernel_rfl) (by kernel_rfl) (by kernel_rfl) (by kernel_rfl) (fun _ _ _ h => h) (Or.inl ⟨by rfl, ?_⟩) hHd ?_
                rotate_left
                · (intro W hSw; have j1 := kAC k1 _ hSw; clear hSw; go_simp; first | done | (with_reducible rfl))
                try simp only [Act.put, List.setIfInBounds_toArray, List.set_cons_zero, List.set_cons_succ]
                refine kAM (i := 11) (v := ?_) rfl (by kernel_rfl) (by kernel_rfl) (by kernel_rfl) (by kernel_rfl) (by kernel_rfl) (fun _ _ _ h => h) (Or.inl ⟨by rfl, ?_⟩) hHd ?_
                rotate_left
                · (intro W hSw; have j2 := kAC k2 _ hSw; have j3 := kAC k3 _ hSw; have j4 := kAC k4 _ hSw; have j5 := kAC k5 _ hSw; have j6 := kAC k6 _ hSw;  clear hSw; go_simp; first | done | (with_reducible rfl))
                try simp only [Act.put, List.setIfInBounds_toArray, List.set_cons_zero, List.set_cons_succ]
                refine kAM (i := 12) (v := ?_) rfl (by kernel_rfl) (by kernel_rfl) (by kernel_rfl) (by kernel_rfl) (by kernel_rfl) (fun _ _ _ h => h) (Or.inl ⟨by rfl, ?_⟩) hHd ?_
                rotate_left
                · (intro W hSw; skip; clear hSw; go_simp; first | done | (with_reducible rfl))
                try simp only [Act.put, List.setIfInBounds_toArray, List.set_cons_zero, List.set_cons_succ]
                refine kAM (i := 15) (v := ?_) rfl (by kernel_rfl) (by kernel_rfl) (by kernel_rfl) (by kernel_rfl) (by kernel_rfl) (fun _ _ _ h => h) (Or.inl ⟨by rfl, ?_⟩) hHd ?_
                rotate_left
                · (intro W hSw; skip; clear hSw; go_simp; first | done | (with_reducible rfl))
                try simp only [Act.put, List.setIfInBounds_toArray, List.set_cons_zero, List.set_cons_succ]
                refine kAM (i := 16) (v := ?_) rfl (by kernel_rfl) (by kernel_rfl) (by kernel_rfl) (by kernel_rfl) (by kernel_rfl) (fun _ _ _ h => h) (Or.inl ⟨by rfl, ?_⟩) hHd ?_
                rotate_left
                · (intro W hSw; have j0 := kAC k0 _ hSw; clear hSw; go_simp; first | done | (with_reducible rfl))
                try simp only [Act.put, List.setIfInBounds_toArray, List.set_cons_zero, List.set_cons_succ]
                refine kAM (i := 17) (v := ?_) rfl (by kernel_rfl) (by kernel_rfl) (by kernel_rfl) (by kernel_rfl) (by kernel_rfl) (fun _ _ _ h => h) (Or.inl ⟨by rfl, ?_⟩) hHd ?_
                rotate_left
                · (intro W hSw; skip; clear hSw; go_simp; first | done | (with_reducible rfl))
                try simp only [Act.put, List.setIfInBounds_toArray, List.set_cons_zero, List.set_cons_succ]
                refine kAM (i := 18) (v := ?_) rfl (by kernel_rfl) (by kernel_rfl) (by kernel_rfl) (by kernel_rfl) (by kernel_rfl) (fun _ _ _ h => h) (Or.inl ⟨by rfl, ?_⟩) hHd ?_
                rotate_left
                · (intro W hSw; skip; clear hSw; go_simp; first | done | (with_reducible rfl))
                try simp only [Act.put, List.setIfInBounds_toArray, List.set_cons_zero, List.set_cons_succ]
                refine kAO (rs := [0, 13]) (by kernel_rfl) (by simp) ?_
                refine kAH.cons rfl (fun K hK => ?_) (kAH.cons rfl (fun K hK => ?_) kAH.nil)
                · go_simp
                  refine hK.out _ _ (fun _ => (by go_grown)) ?_
                  clear hK K
                  try simp only [Act.put, List.setIfInBounds_toArray, List.set_cons_zero, List.set_cons_succ]
                  refine kAO (rs := [5, 13]) (by kernel_rfl) (by simp) ?_
                  refine kAH.cons rfl (fun K hK => ?_) (kAH.cons rfl (fun K hK => ?_) kAH.nil)
                  · refine kBY kBI rfl (.tmp 101) (.tmp 105) rfl wi.heap.size _ [] (out.take p) rfl (S := fun q => w.heap.size + 1 < q) ?a1 _ _ _ rfl ?a2 ?a3 ?a4 ?a5 ?_
                    case a1 => exact Own.at0 REnt _ _ (by (simp only [kAG, kAE, Array.getElem?_push, Array.size_push]; simp)) (by simp <;> omega)
                    case a2 => exact ((HTk.out.below (by go_grown)).mono (fun q hq hlt => ⟨hq.1, fun e => by have h2 := hq.2; first | (have h4 : wi.heap.size = q := Option.some.inj e; omega) | (have h4 : wi.heap.size + 1 = q := (by simpa using Option.some.inj e); omega)⟩))
                    case a3 => simp <;> omega
                    case a4 => unfold maxLen; simp <;> omega
                    case a5 => simp <;> omega
                    intro v4 w4 hown4 hb4 hk4
                    change Kp (.slice (some ⟨_, 0, none⟩) 0 0) v4 _ w4 at hk4
                    have hB4 : Below wi.heap.size wi w4 := Below.trans (by go_grown) hb4
                    refine hK.out _ _ (fun _ => hB4) ?_
                    clear hK K
                    try simp only [Act.put, List.setIfInBounds_toArray, List.set_cons_zero, List.set_cons_succ]
                    refine kAO (rs := [13]) (by kernel_rfl) (by simp) ?_
                    refine kAH.cons rfl (fun K hK => ?_) kAH.nil
                    go_simp
                    have hB4' := hB4.alloc hB4.size (.cells #[.string x.name, .slice p5 cx.params.length pc5, .string cx.result.elem, .string cx.result.shape.row, .slice t5 cx.result.shape.dims.length tc5, .slice q5 cx.wh.length qc5] 44); have hown4' := hown4.alloc (.cells #[.string x.name, .slice p5 cx.params.length pc5, .string cx.result.elem, .string cx.result.shape.row, .slice t5 cx.result.shape.dims.length tc5, .slice q5 cx.wh.length qc5] 44)
                    refine hK.out _ _ (fun _ => hB4') ?_
                    clear hK K
                    try simp only [Act.put, List.setIfInBounds_toArray, List.set_cons_zero, List.set_cons_succ]
                    refine kAO (rs := [14]) (by kernel_rfl) (by simp) ?_
                    refine kAH.cons rfl (fun K hK => ?_) kAH.nil
                    refine kCC kBI rfl (.tmp 106) (.tmp 114) rfl wi.heap.size _ ([] ++ out.take p) rfl (S := fun q => w.heap.size + 1 < q) hown4' _ ce [.string x.name, .slice p5 cx.params.length pc5, .string cx.result.elem, .string cx.result.shape.row, .slice t5 cx.result.shape.dims.length tc5, .slice q5 cx.wh.length qc5] rfl (REnt.below (w := wi) (REnt.mono HCi.out (fun q hq _ => ⟨hq.1, fun e => by have h1 := hown4.base_le q e; have h2 := hq.2; omega⟩)) hB4') (kA4 44 (by (simp only [kAG, kAE, Array.getElem?_push, Array.size_push]; simp))) (by have h1 := HLt.out.1; omega) (by have h1 := HLt.out.1; unfold maxLen; omega) hB4'.size ?_
                    intro v5 w5 hown5 hb5 hk5
                    have hB5 : Below wi.heap.size wi w5 := Below.trans hB4' hb5
                    refine hK.out _ _ (fun _ => hB5) ?_
                    clear hK K
                    try simp only [Act.put, List.setIfInBounds_toArray, List.set_cons_zero, List.set_cons_succ]
                    refine kAO (rs := [19]) (by kernel_rfl) (by simp) ?_
                    refine kAH.cons rfl (fun K hK => ?_) kAH.nil
                    refine kBY kBI rfl (.tmp 115) (.tmp 119) rfl wi.heap.size _ (([] ++ out.take p) ++ [ce]) (out.drop p) rfl (S := fun q => w.heap.size + 1 < q) hown5 _ _ _ rfl ((HDr.out.below hB5).mono (fun q hq hlt => ⟨hq.1, fun e => by have h1 := hown5.base_le q e; have h2 := hq.2; omega⟩)) (by have h1 := HLt.out.2; omega) (by have h1 := HLt.out.2; unfold maxLen; omega) hB5.size ?_
                    intro v6 w6 hown6 hb6 hk6
                    obtain ⟨a6, m6, c6, rfl⟩ := hown6.shape
                    have hB6 : Below wi.heap.size wi w6 := Below.trans hB5 hb6
                    refine hK.out _ _ (fun _ => hB6) ?_
                    clear hK K
                    try simp only [Act.put, List.setIfInBounds_toArray, List.set_cons_zero, List.set_cons_succ]
                    refine kAM (i := 20) (v := ?_) rfl (by kernel_rfl) (by kernel_rfl) (by kernel_rfl) (by kernel_rfl) (by kernel_rfl) (fun _ _ _ h => h) (Or.inl ⟨by rfl, ?_⟩) hB6 ?_
                    rotate_left
                    · (intro W hSw; skip; clear hSw; go_simp; first | done | (with_reducible rfl))
                    try simp only [Act.put, List.setIfInBounds_toArray, List.set_cons_zero, List.set_cons_succ]
                    have HO6 := HOi.out.below hB6 HOi.out.lt; have u1 := HO6.cell 1 _ rfl; have f1 := HO6.fz 1; have hl6 := HO6.lt
                    refine kAO (rs := [21]) (by kernel_rfl) (by simp) ?_
                    refine kAH.cons rfl (fun K hK => ?_) kAH.nil
                    go_simp
                    refine hK.out _ _ (fun h => absurd rfl h) ?_
                    clear hK K
                    refine kCW (by kernel_rfl) ?_ _
                    go_wp2_with fail
                    go_roundw
                    case rel => exact ⟨i0 + 1, putE m p x, _, by omega, by go_num, HPu, hJ (by rw [← HL6.out]; exact kFN (hown6.lower (by omega)) (by omega) _), hJ (fun h => absurd h (by unfold putE; simp)), hJ ((HRi.out.below hB6 HRi.out.lt).other (by show w.heap.size + 1 ≠ w.heap.size; omega)), hJ (HO6.set 1 _), ((HB3.out.trans (HBi.out.mono HB3.out.size)).trans (hB6.mono (by omega))).setCell (by show w.heap.size ≤ w.heap.size + 1; omega) _, by simp; have := hB6.size; omega⟩
                    case measure => simp [intOf]; omega
                  · go_simp
                    refine hK.out _ _ (fun _ => (by go_grown)) ?_
                    clear hK K
                    try simp only [Act.put, List.setIfInBounds_toArray, List.set_cons_zero, List.set_cons_succ]
                    refine kAO (rs := [5]) (by kernel_rfl) (by simp) ?_
                    refine kAH.cons rfl (fun K hK => ?_) kAH.nil
                    refine kBY kBI rfl (.tmp 101) (.tmp 105) rfl wi.heap.size _ [] (out.take p) rfl (S := fun q => w.heap.size + 1 < q) ?a1 _ _ _ rfl ?a2 ?a3 ?a4 ?a5 ?_
                    case a1 => exact Own.at0 REnt _ _ (by (simp only [kAG, kAE, Array.getElem?_push, Array.size_push]; simp)) (by simp <;> omega)
                    case a2 => exact ((HTk.out.below (by go_grown)).mono (fun q hq hlt => ⟨hq.1, fun e => by have h2 := hq.2; first | (have h4 : wi.heap.size = q := Option.some.inj e; omega) | (have h4 : wi.heap.size + 1 = q := (by simpa using Option.some.inj e); omega)⟩))
                    case a3 => simp <;> omega
                    case a4 => unfold maxLen; simp <;> omega
                    case a5 => simp <;> omega
                    intro v4 w4 hown4 hb4 hk4
                    change Kp (.slice (some ⟨_, 0, none⟩) 0 0) v4 _ w4 at hk4
                    have hB4 : Below wi.heap.size wi w4 := Below.trans (by go_grown) hb4
                    refine hK.out _ _ (fun _ => hB4) ?_
                    clear hK K
                    try simp only [Act.put, List.setIfInBounds_toArray, List.set_cons_zero, List.set_cons_succ]
                    refine kAO (rs := [14]) (by kernel_rfl) (by simp) ?_
                    refine kAH.cons rfl (fun K hK => ?_) kAH.nil
                    refine kCC kBI rfl (.tmp 106) (.tmp 114) rfl wi.heap.size _ ([] ++ out.take p) rfl (S := fun q => w.heap.size + 1 < q) hown4 _ ce [.string x.name, .slice p5 cx.params.length pc5, .string cx.result.elem, .string cx.result.shape.row, .slice t5 cx.result.shape.dims.length tc5, .slice q5 cx.wh.length qc5] rfl (REnt.below (w := wi) (REnt.mono HCi.out (fun q hq _ => ⟨hq.1, fun e => by have h1 := hown4.base_le q e; have h2 := hq.2; omega⟩)) hB4) (kA4 44 ((hk4.block (wi.heap.size + 1) (by simp) (by simp [Value.ownBlock])).trans (by (simp only [kAG, kAE, Array.getElem?_push, Array.size_push]; simp)))) (by have h1 := HLt.out.1; omega) (by have h1 := HLt.out.1; unfold maxLen; omega) hB4.size ?_
                    intro v5 w5 hown5 hb5 hk5
                    have hB5 : Below wi.heap.size wi w5 := Below.trans hB4 hb5
                    refine hK.out _ _ (fun _ => hB5) ?_
                    clear hK K
                    try simp only [Act.put, List.setIfInBounds_toArray, List.set_cons_zero, List.set_cons_succ]
                    refine kAO (rs := [19]) (by kernel_rfl) (by simp) ?_
                    refine kAH.cons rfl (fun K hK => ?_) kAH.nil
                    refine kBY kBI rfl (.tmp 115) (.tmp 119) rfl wi.heap.size _ (([] ++ out.take p) ++ [ce]) (out.drop p) rfl (S := fun q => w.heap.size + 1 < q) hown5 _ _ _ rfl ((HDr.out.below hB5).mono (fun q hq hlt => ⟨hq.1, fun e => by have h1 := hown5.base_le q e; have h2 := hq.2; omega⟩)) (by have h1 := HLt.out.2; omega) (by have h1 := HLt.out.2; unfold maxLen; omega) hB5.size ?_
                    intro v6 w6 hown6 hb6 hk6
                    obtain ⟨a6, m6, c6, rfl⟩ := hown6.shape
                    have hB6 : Below wi.heap.size wi w6 := Below.trans hB5 hb6
                    refine hK.out _ _ (fun _ => hB6) ?_
                    clear hK K
                    try simp only [Act.put, List.setIfInBounds_toArray, List.set_cons_zero, List.set_cons_succ]
                    refine kAM (i := 20) (v := ?_) rfl (by kernel_rfl) (by kernel_rfl) (by kernel_rfl) (by kernel_rfl) (by kernel_rfl) (fun _ _ _ h => h) (Or.inl ⟨by rfl, ?_⟩) hB6 ?_
                    rotate_left
                    · (intro W hSw; skip; clear hSw; go_simp; first | done | (with_reducible rfl))
                    try simp only [Act.put, List.setIfInBounds_toArray, List.set_cons_zero, List.set_cons_succ]
                    have HO6 := HOi.out.below hB6 HOi.out.lt; have u1 := HO6.cell 1 _ rfl; have f1 := HO6.fz 1; have hl6 := HO6.lt
                    refine kAO (rs := [21]) (by kernel_rfl) (by simp) ?_
                    refine kAH.cons rfl (fun K hK => ?_) kAH.nil
                    go_simp
                    refine hK.out _ _ (fun h => absurd rfl h) ?_
                    clear hK K
                    refine kCW (by kernel_rfl) ?_ _
                    go_wp2_with fail
                    go_roundw
                    case rel => exact ⟨i0 + 1, putE m p x, _, by omega, by go_num, HPu, hJ (by rw [← HL6.out]; exact kFN (hown6.lower (by omega)) (by omega) _), hJ (fun h => absurd h (by unfold putE; simp)), hJ ((HRi.out.below hB6 HRi.out.lt).other (by show w.heap.size + 1 ≠ w.heap.size; omega)), hJ (HO6.set 1 _), ((HB3.out.trans (HBi.out.mono HB3.out.size)).trans (hB6.mono (by omega))).setCell (by show w.heap.size ≤ w.heap.size + 1; omega) _, by simp; have := hB6.size; omega⟩
                    case measure => simp [intOf]; omega
                · go_simp
                  refine hK.out _ _ (fun _ => (by go_grown)) ?_
                  clear hK K
                  try simp only [Act.put, List.setIfInBounds_toArray, List.set_cons_zero, List.set_cons_succ]
                  refine kAO (rs := [0]) (by kernel_rfl) (by simp) ?_
                  refine kAH.cons rfl (fun K hK => ?_) kAH.nil
                  go_simp
                  refine hK.out _ _ (fun _ => (by go_grown)) ?_
                  clear hK K
                  try simp only [Act.put, List.setIfInBounds_toArray, List.set_cons_zero, List.set_cons_succ]
                  refine kAO (rs := [5]) (by kernel_rfl) (by simp) ?_
                  refine kAH.cons rfl (fun K hK => ?_) kAH.nil
                  refine kBY kBI rfl (.tmp 101) (.tmp 105) rfl wi.heap.size _ [] (out.take p) rfl (S := fun q => w.heap.size + 1 < q) ?a1 _ _ _ rfl ?a2 ?a3 ?a4 ?a5 ?_
                  case a1 => exact Own.at0 REnt _ _ (by (simp only [kAG, kAE, Array.getElem?_push, Array.size_push]; simp)) (by simp <;> omega)
                  case a2 => exact ((HTk.out.below (by go_grown)).mono (fun q hq hlt => ⟨hq.1, fun e => by have h2 := hq.2; first | (have h4 : wi.heap.size = q := Option.some.inj e; omega) | (have h4 : wi.heap.size + 1 = q := (by simpa using Option.some.inj e); omega)⟩))
                  case a3 => simp <;> omega
                  case a4 => unfold maxLen; simp <;> omega
                  case a5 => simp <;> omega
                  intro v4 w4 hown4 hb4 hk4
                  change Kp (.slice (some ⟨_, 0, none⟩) 0 0) v4 _ w4 at hk4
                  have hB4 : Below wi.heap.size wi w4 := Below.trans (by go_grown) hb4
                  refine hK.out _ _ (fun _ => hB4) ?_
                  clear hK K
                  try simp only [Act.put, List.setIfInBounds_toArray, List.set_cons_zero, List.set_cons_succ]
                  refine kAO (rs := [14]) (by kernel_rfl) (by simp) ?_
                  refine kAH.cons rfl (fun K hK => ?_) kAH.nil
                  refine kCC kBI rfl (.tmp 106) (.tmp 114) rfl wi.heap.size _ ([] ++ out.take p) rfl (S := fun q => w.heap.size + 1 < q) hown4 _ ce [.string x.name, .slice p5 cx.params.length pc5, .string cx.result.elem, .string cx.result.shape.row, .slice t5 cx.result.shape.dims.length tc5, .slice q5 cx.wh.length qc5] rfl (REnt.below (w := wi) (REnt.mono HCi.out (fun q hq _ => ⟨hq.1, fun e => by have h1 := hown4.base_le q e; have h2 := hq.2; omega⟩)) hB4) (kA4 44 ((hk4.block wi.heap.size (by simp <;> omega) (by simp [Value.ownBlock])).trans (by (simp only [kAG, kAE, Array.getElem?_push, Array.size_push]; simp)))) (by have h1 := HLt.out.1; omega) (by have h1 := HLt.out.1; unfold maxLen; omega) hB4.size ?_
                  intro v5 w5 hown5 hb5 hk5
                  have hB5 : Below wi.heap.size wi w5 := Below.trans hB4 hb5
                  refine hK.out _ _ (fun _ => hB5) ?_
                  clear hK K
                  try simp only [Act.put, List.setIfInBounds_toArray, List.set_cons_zero, List.set_cons_succ]
                  refine kAO (rs := [19]) (by kernel_rfl) (by simp) ?_
                  refine kAH.cons rfl (fun K hK => ?_) kAH.nil
                  refine kBY kBI rfl (.tmp 115) (.tmp 119) rfl wi.heap.size _ (([] ++ out.take p) ++ [ce]) (out.drop p) rfl (S := fun q => w.heap.size + 1 < q) hown5 _ _ _ rfl ((HDr.out.below hB5).mono (fun q hq hlt => ⟨hq.1, fun e => by have h1 := hown5.base_le q e; have h2 := hq.2; omega⟩)) (by have h1 := HLt.out.2; omega) (by have h1 := HLt.out.2; unfold maxLen; omega) hB5.size ?_
                  intro v6 w6 hown6 hb6 hk6
                  obtain ⟨a6, m6, c6, rfl⟩ := hown6.shape
                  have hB6 : Below wi.heap.size wi w6 := Below.trans hB5 hb6
                  refine hK.out _ _ (fun _ => hB6) ?_
                  clear hK K
                  try simp only [Act.put, List.setIfInBounds_toArray, List.set_cons_zero, List.set_cons_succ]
                  refine kAM (i := 20) (v := ?_) rfl (by kernel_rfl) (by kernel_rfl) (by kernel_rfl) (by kernel_rfl) (by kernel_rfl) (fun _ _ _ h => h) (Or.inl ⟨by rfl, ?_⟩) hB6 ?_
                  rotate_left
                  · (intro W hSw; skip; clear hSw; go_simp; first | done | (with_reducible rfl))
                  try simp only [Act.put, List.setIfInBounds_toArray, List.set_cons_zero, List.set_cons_succ]
                  have HO6 := HOi.out.below hB6 HOi.out.lt; have u1 := HO6.cell 1 _ rfl; have f1 := HO6.fz 1; have hl6 := HO6.lt
                  refine kAO (rs := [21]) (by kernel_rfl) (by simp) ?_
                  refine kAH.cons rfl (fun K hK => ?_) kAH.nil
                  go_simp
                  refine hK.out _ _ (fun h => absurd rfl h) ?_
                  clear hK K
                  refine kCW (by kernel_rfl) ?_ _
                  go_wp2_with fail
                  go_roundw
                  case rel => exact ⟨i0 + 1, putE m p x, _, by omega, by go_num, HPu, hJ (by rw [← HL6.out]; exact kFN (hown6.lower (by omega)) (by omega) _), hJ (fun h => absurd h (by unfold putE; simp)), hJ ((HRi.out.below hB6 HRi.out.lt).other (by show w.heap.size + 1 ≠ w.heap.size; omega)), hJ (HO6.set 1 _), ((HB3.out.trans (HBi.out.mono HB3.out.size)).trans (hB6.mono (by omega))).setCell (by show w.heap.size ≤ w.heap.size + 1; omega) _, by simp; have := hB6.size; omega⟩
                  case measure => simp [intOf]; omega
          · have HPM : Hid (p = M) := hJ (by omega)
            have HPu := hJ (HPut.out p HT.out (fun h => absurd h (by rw [← HMm.out]; omega)))
            have hpi : ¬((p : Int) < (M : Int)) := by omega
            have O1 := Later.cell o1; have N0 := Later.cell n0
            go_wp2_with fail
            refine kAB (by kernel_rfl) (by kernel_rfl) ?_
            repeat (go_big_quiet_step (fail))
            refine wpQuiet_nil ?_
            rintro _ ⟨t9, rfl⟩
            have HBz : Hid (Below W3.heap.size W3 t9.w) := hJ (hBq.trans (t9.b.mono hzq))
            have o1 := kAC o1 _ t9.b; have n0 := kAC n0 _ t9.b; clear O1 N0
            generalize t9.w = wz at *
            have O1 := Later.cell o1; have N0 := Later.cell n0
            go_wp2_with fail
            refine kAB (by kernel_rfl) (by kernel_rfl) ?_
            repeat (go_big_quiet_step (fail))
            refine wpQuiet_nil ?_
            rintro _ ⟨t9, rfl⟩
            have HBi := hJ (HBz.out.trans (t9.b.mono HBz.out.size)); clear O1 N0 o1 n0 HTw HPut HBz hBq hzq
            generalize t9.w = wi at *
            have HOsi := hJ (HOs3.out.below HBi.out); have HRi := hJ (HR3.out.below HBi.out HR3.out.lt); have HOi := hJ (HO3.out.below HBi.out HO3.out.lt); have HXi := hJ (HX9.out.below HBi.out HX9.out.lt)
            have HEi := hJ ((HEl3.out.below HBi.out).mono (S' := fun q => w.heap.size + 1 < q ∧ q < wi.heap.size) (fun q hq hlt => ⟨hq, hlt⟩))
            have HCi := hJ (REnt.mono (S' := fun q => w.heap.size + 1 < q ∧ q < wi.heap.size) (REnt.below HCx3.out HBi.out) (fun q hq hlt => ⟨hq, hlt⟩))
            have k1 := kAC hcn3 _ HBi.out; have hzi := HBi.out.size; have k2 := HXi.out.cell 0 _ rfl; have k3 := HXi.out.cell 1 _ rfl; have k4 := HXi.out.cell 2 _ rfl; have k5 := HXi.out.cell 3 _ rfl; have k6 := HXi.out.cell 4 _ rfl; have k0 := HOi.out.cell 1 _ rfl
            have hlo : w.heap.size + 1 < wi.heap.size := HOi.out.lt
            have hlx : w2.heap.size < wi.heap.size := HXi.out.lt
            have hlb : b < wi.heap.size := by omega
            clear HEl3 HCx3 HX9 hcn3 HOs3; clear hpi
            have HNo : Hid (M = 0 → ao = none) := hJ (fun h => by have h1 := HNl.out (by rw [← HMm.out]; exact h); rw [Value.slice.injEq] at h1; exact h1.1)
            have HFo : Hid (0 < M → ∃ g og, ao = some ⟨g, og, none⟩) := hJ (fun h => by obtain ⟨g, og, e, _⟩ := HOsi.out.form 0 h; exact ⟨g, og, e⟩)
            clear HPM; obtain ⟨a1, c1, a2, c2, hs1, hs2, HTk, HDr⟩ := els_cut kBI HEi.out p hp HNo.out HFo.out; have HL6 := hJ (HOut.out p)
            have HLt : Hid (([] ++ out.take p).length ≤ 12 ∧ (([] ++ out.take p) ++ [ce]).length + (M - p) ≤ 26) := hJ (by have h1 := HMl.out; constructor <;> simp <;> omega)
            go_wp2_with fail
            refine wp_region_E 21 (fun W => Below wi.heap.size wi W) (by kernel_rfl) ?_
            have hHd := (Below.refl wi.heap.size wi).drew
            refine kAM (i := 1) (v := ?_) rfl (by kernel_rfl) (by kernel_rfl) (by kernel_rfl) (by kernel_rfl) (by kernel_rfl) (fun _ _ _ h => h) (Or.inl ⟨by rfl, ?_⟩) hHd ?_
            rotate_left
            · (intro W hSw; skip; clear hSw; go_simp; first | done | (with_reducible rfl))
            try simp only [Act.put, List.setIfInBounds_toArray, List.set_cons_zero, List.set_cons_succ]
            refine kAM (i := 2) (v := ?_) rfl (by kernel_rfl) (by kernel_rfl) (by kernel_rfl) (by kernel_rfl) (by kernel_rfl) (fun _ _ _ h => h) (Or.inl ⟨by rfl, ?_⟩) hHd ?_
            rotate_left
            · (intro W hSw; have j0 := kAC k0 _ hSw; clear hSw; go_simp; first | done | (with_reducible rfl))
            try simp only [Act.put, List.setIfInBounds_toArray, List.set_cons_zero, List.set_cons_succ]
            refine kAM (i := 3) (v := ?_) rfl (by kernel_rfl) (by kernel_rfl) (by kernel_rfl) (by kernel_rfl) (by kernel_rfl) (fun _ _ _ h => h) (Or.inl ⟨by rfl, ?_⟩) hHd ?_
            rotate_left
            · (intro W hSw; skip; clear hSw; go_simp; first | done | (with_reducible rfl))
            try simp only [Act.put, List.setIfInBounds_toArray, List.set_cons_zero, List.set_cons_succ]
            refine kAM (i := 4) (v := ?_) rfl (by kernel_rfl) (by kernel_rfl) (by kernel_rfl) (by kernel_rfl) (by kernel_rfl) (fun _ _ _ h => h) (Or.inl ⟨by rfl, ?_⟩) hHd ?_
            rotate_left
            · (intro W hSw; skip; clear hSw; go_simp; first | done | (with_reducible rfl))
            try simp only [Act.put, List.setIfInBounds_toArray, List.set_cons_zero, List.set_cons_succ]
            refine kAM (i := 6) (v := ?_) rfl (by kernel_rfl) (by kernel_rfl) (by kernel_rfl) (by kernel_rfl) (by kernel_rfl) (fun _ _ _ h => h) (Or.inl ⟨by rfl, ?_⟩) hHd ?_
            rotate_left
            · (intro W hSw; skip; clear hSw; go_simp; first | done | (with_reducible rfl))
            try simp only [Act.put, List.setIfInBounds_toArray, List.set_cons_zero, List.set_cons_succ]
            refine kAM (i := 7) (v := ?_) rfl (by kernel_rfl) (by kernel_rfl) (by kernel_rfl) (by kernel_rfl) (by kernel_rfl) (fun _ _ _ h => h) (Or.inl ⟨by rfl, ?_⟩) hHd ?_
            rotate_left
            · (intro W hSw; skip; clear hSw; go_simp; first | done | (with_reducible rfl))
            try simp only [Act.put, List.setIfInBounds_toArray, List.set_cons_zero, List.set_cons_succ]
            refine kAM (i := 8) (v := ?_) rfl (by kernel_rfl) (by kernel_rfl) (by kernel_rfl) (by kernel_rfl) (by kernel_rfl) (fun _ _ _ h => h) (Or.inl ⟨by rfl, ?_⟩) hHd ?_
            rotate_left
            · (intro W hSw; skip; clear hSw; go_simp; first | done | (with_reducible rfl))
            try simp only [Act.put, List.setIfInBounds_toArray, List.set_cons_zero, List.set_cons_succ]
            refine kAM (i := 9) (v := ?_) rfl (by kernel_rfl) (by kernel_rfl) (by kernel_rfl) (by kernel_rfl) (by kernel_rfl) (fun _ _ _ h => h) (Or.inl ⟨by rfl, ?_⟩) hHd ?_
            rotate_left
            · (intro W hSw; skip; clear hSw; go_simp; first | done | (with_reducible rfl))
            try simp only [Act.put, List.setIfInBounds_toArray, List.set_cons_zero, List.set_cons_succ]
            refine kAM (i := 10) (v := ?_) rfl (by kernel_rfl) (by kernel_rfl) (by kernel_rfl) (by kernel_rfl) (by kernel_rfl) (fun _ _ _ h => h) (Or.inl ⟨by rfl, ?_⟩) hHd ?_
            rotate_left
            · (intro W hSw; have j1 := kAC k1 _ hSw; clear hSw; go_simp; first | done | (with_reducible rfl))
            try simp only [Act.put, List.setIfInBounds_toArray, List.set_cons_zero, List.set_cons_succ]
            refine kAM (i := 11) (v := ?_) rfl (by kernel_rfl) (by kernel_rfl) (by kernel_rfl) (by kernel_rfl) (by kernel_rfl) (fun _ _ _ h => h) (Or.inl ⟨by rfl, ?_⟩) hHd ?_
            rotate_left
            · (intro W hSw; have j2 := kAC k2 _ hSw; have j3 := kAC k3 _ hSw; have j4 := kAC k4 _ hSw; have j5 := kAC k5 _ hSw; have j6 := kAC k6 _ hSw;  clear hSw; go_simp; first | done | (with_reducible rfl))
            try simp only [Act.put, List.setIfInBounds_toArray, List.set_cons_zero, List.set_cons_succ]
            refine kAM (i := 12) (v := ?_) rfl (by kernel_rfl) (by kernel_rfl) (by kernel_rfl) (by kernel_rfl) (by kernel_rfl) (fun _ _ _ h => h) (Or.inl ⟨by rfl, ?_⟩) hHd ?_
            rotate_left
            · (intro W hSw; skip; clear hSw; go_simp; first | done | (with_reducible rfl))
            try simp only [Act.put, List.setIfInBounds_toArray, List.set_cons_zero, List.set_cons_succ]
            refine kAM (i := 15) (v := ?_) rfl (by kernel_rfl) (by kernel_rfl) (by kernel_rfl) (by kernel_rfl) (by kernel_rfl) (fun _ _ _ h => h) (Or.inl ⟨by rfl, ?_⟩) hHd ?_
            rotate_left
            · (intro W hSw; skip; clear hSw; go_simp; first | done | (with_reducible rfl))
            try simp only [Act.put, List.setIfInBounds_toArray, List.set_cons_zero, List.set_cons_succ]
            refine kAM (i := 16) (v := ?_) rfl (by kernel_rfl) (by kernel_rfl) (by kernel_rfl) (by kernel_rfl) (by kernel_rfl) (fun _ _ _ h => h) (Or.inl ⟨by rfl, ?_⟩) hHd ?_
            rotate_left
            · (intro W hSw; have j0 := kAC k0 _ hSw; clear hSw; go_simp; first | done | (with_reducible rfl))
            try simp only [Act.put, List.setIfInBounds_toArray, List.set_cons_zero, List.set_cons_succ]
            refine kAM (i := 17) (v := ?_) rfl (by kernel_rfl) (by kernel_rfl) (by kernel_rfl) (by kernel_rfl) (by kernel_rfl) (fun _ _ _ h => h) (Or.inl ⟨by rfl, ?_⟩) hHd ?_
            rotate_left
            · (intro W hSw; skip; clear hSw; go_simp; first | done | (with_reducible rfl))
            try simp only [Act.put, List.setIfInBounds_toArray, List.set_cons_zero, List.set_cons_succ]
            refine kAM (i := 18) (v := ?_) rfl (by kernel_rfl) (by kernel_rfl) (by kernel_rfl) (by kernel_rfl) (by kernel_rfl) (fun _ _ _ h => h) (Or.inl ⟨by rfl, ?_⟩) hHd ?_
            rotate_left
            · (intro W hSw; skip; clear hSw; go_simp; first | done | (with_reducible rfl))
            try simp only [Act.put, List.setIfInBounds_toArray, List.set_cons_zero, List.set_cons_succ]
            refine kAO (rs := [0, 13]) (by kernel_rfl) (by simp) ?_
            refine kAH.cons rfl (fun K hK => ?_) (kAH.cons rfl (fun K hK => ?_) kAH.nil)
            · go_simp
              refine hK.out _ _ (fun _ => (by go_grown)) ?_
              clear hK K
              try simp only [Act.put, List.setIfInBounds_toArray, List.set_cons_zero, List.set_cons_succ]
              refine kAO (rs := [5, 13]) (by kernel_rfl) (by simp) ?_
              refine kAH.cons rfl (fun K hK => ?_) (kAH.cons rfl (fun K hK => ?_) kAH.nil)
              · refine kBY kBI rfl (.tmp 101) (.tmp 105) rfl wi.heap.size _ [] (out.take p) rfl (S := fun q => w.heap.size + 1 < q) ?a1 _ _ _ rfl ?a2 ?a3 ?a4 ?a5 ?_
                case a1 => exact Own.at0 REnt _ _ (by (simp only [kAG, kAE, Array.getElem?_push, Array.size_push]; simp)) (by simp <;> omega)
                case a2 => exact ((HTk.out.below (by go_grown)).mono (fun q hq hlt => ⟨hq.1, fun e => by have h2 := hq.2; first | (have h4 : wi.heap.size = q := Option.some.inj e; omega) | (have h4 : wi.heap.size + 1 = q := (by simpa using Option.some.inj e); omega)⟩))
                case a3 => simp <;> omega
                case a4 => unfold maxLen; simp <;> omega
                case a5 => simp <;> omega
                intro v4 w4 hown4 hb4 hk4
                change Kp (.slice (some ⟨_, 0, none⟩) 0 0) v4 _ w4 at hk4
                have hB4 : Below wi.heap.size wi w4 := Below.trans (by go_grown) hb4
                refine hK.out _ _ (fun _ => hB4) ?_
                clear hK K
                try simp only [Act.put, List.setIfInBounds_toArray, List.set_cons_zero, List.set_cons_succ]
                refine kAO (rs := [13]) (by kernel_rfl) (by simp) ?_
                refine kAH.cons rfl (fun K hK => ?_) kAH.nil
                go_simp
                have hB4' := hB4.alloc hB4.size (.cells #[.string x.name, .slice p5 cx.params.length pc5, .string cx.result.elem, .string cx.result.shape.row, .slice t5 cx.result.shape.dims.length tc5, .slice q5 cx.wh.length qc5] 44); have hown4' := hown4.alloc (.cells #[.string x.name, .slice p5 cx.params.length pc5, .string cx.result.elem, .string cx.result.shape.row, .slice t5 cx.result.shape.dims.length tc5, .slice q5 cx.wh.length qc5] 44)
                refine hK.out _ _ (fun _ => hB4') ?_
                clear hK K
                try simp only [Act.put, List.setIfInBounds_toArray, List.set_cons_zero, List.set_cons_succ]
                refine kAO (rs := [14]) (by kernel_rfl) (by simp) ?_
                refine kAH.cons rfl (fun K hK => ?_) kAH.nil
                refine kCC kBI rfl (.tmp 106) (.tmp 114) rfl wi.heap.size _ ([] ++ out.take p) rfl (S := fun q => w.heap.size + 1 < q) hown4' _ ce [.string x.name, .slice p5 cx.params.length pc5, .string cx.result.elem, .string cx.result.shape.row, .slice t5 cx.result.shape.dims.length tc5, .slice q5 cx.wh.length qc5] rfl (REnt.below (w := wi) (REnt.mono HCi.out (fun q hq _ => ⟨hq.1, fun e => by have h1 := hown4.base_le q e; have h2 := hq.2; omega⟩)) hB4') (kA4 44 (by (simp only [kAG, kAE, Array.getElem?_push, Array.size_push]; simp))) (by have h1 := HLt.out.1; omega) (by have h1 := HLt.out.1; unfold maxLen; omega) hB4'.size ?_
                intro v5 w5 hown5 hb5 hk5
                have hB5 : Below wi.heap.size wi w5 := Below.trans hB4' hb5
                refine hK.out _ _ (fun _ => hB5) ?_
                clear hK K
                try simp only [Act.put, List.setIfInBounds_toArray, List.set_cons_zero, List.set_cons_succ]
                refine kAO (rs := [19]) (by kernel_rfl) (by simp) ?_
                refine kAH.cons rfl (fun K hK => ?_) kAH.nil
                refine kBY kBI rfl (.tmp 115) (.tmp 119) rfl wi.heap.size _ (([] ++ out.take p) ++ [ce]) (out.drop p) rfl (S := fun q => w.heap.size + 1 < q) hown5 _ _ _ rfl ((HDr.out.below hB5).mono (fun q hq hlt => ⟨hq.1, fun e => by have h1 := hown5.base_le q e; have h2 := hq.2; omega⟩)) (by have h1 := HLt.out.2; omega) (by have h1 := HLt.out.2; unfold maxLen; omega) hB5.size ?_
                intro v6 w6 hown6 hb6 hk6
                obtain ⟨a6, m6, c6, rfl⟩ := hown6.shape
                have hB6 : Below wi.heap.size wi w6 := Below.trans hB5 hb6
                refine hK.out _ _ (fun _ => hB6) ?_
                clear hK K
                try simp only [Act.put, List.setIfInBounds_toArray, List.set_cons_zero, List.set_cons_succ]
                refine kAM (i := 20) (v := ?_) rfl (by kernel_rfl) (by kernel_rfl) (by kernel_rfl) (by kernel_rfl) (by kernel_rfl) (fun _ _ _ h => h) (Or.inl ⟨by rfl, ?_⟩) hB6 ?_
                rotate_left
                · (intro W hSw; skip; clear hSw; go_simp; first | done | (with_reducible rfl))
                try simp only [Act.put, List.setIfInBounds_toArray, List.set_cons_zero, List.set_cons_succ]
                have HO6 := HOi.out.below hB6 HOi.out.lt; have u1 := HO6.cell 1 _ rfl; have f1 := HO6.fz 1; have hl6 := HO6.lt
                refine kAO (rs := [21]) (by kernel_rfl) (by simp) ?_
                refine kAH.cons rfl (fun K hK => ?_) kAH.nil
                go_simp
                refine hK.out _ _ (fun h => absurd rfl h) ?_
                clear hK K
                refine kCW (by kernel_rfl) ?_ _
                go_wp2_with fail
                go_roundw
                case rel => exact ⟨i0 + 1, putE m p x, _, by omega, by go_num, HPu, hJ (by rw [← HL6.out]; exact kFN (hown6.lower (by omega)) (by omega) _), hJ (fun h => absurd h (by unfold putE; simp)), hJ ((HRi.out.below hB6 HRi.out.lt).other (by show w.heap.size + 1 ≠ w.heap.size; omega)), hJ (HO6.set 1 _), ((HB3.out.trans (HBi.out.mono HB3.out.size)).trans (hB6.mono (by omega))).setCell (by show w.heap.size ≤ w.heap.size + 1; omega) _, by simp; have := hB6.size; omega⟩
                case measure => simp [intOf]; omega
              · go_simp
                refine hK.out _ _ (fun _ => (by go_grown)) ?_
                clear hK K
                try simp only [Act.put, List.setIfInBounds_toArray, List.set_cons_zero, List.set_cons_succ]
                refine kAO (rs := [5]) (by kernel_rfl) (by simp) ?_
                refine kAH.cons rfl (fun K hK => ?_) kAH.nil
                refine kBY kBI rfl (.tmp 101) (.tmp 105) rfl wi.heap.size _ [] (out.take p) rfl (S := fun q => w.heap.size + 1 < q) ?a1 _ _ _ rfl ?a2 ?a3 ?a4 ?a5 ?_
                case a1 => exact Own.at0 REnt _ _ (by (simp only [kAG, kAE, Array.getElem?_push, Array.size_push]; simp)) (by simp <;> omega)
                case a2 => exact ((HTk.out.below (by go_grown)).mono (fun q hq hlt => ⟨hq.1, fun e => by have h2 := hq.2; first | (have h4 : wi.heap.size = q := Option.some.inj e; omega) | (have h4 : wi.heap.size + 1 = q := (by simpa using Option.some.inj e); omega)⟩))
                case a3 => simp <;> omega
                case a4 => unfold maxLen; simp <;> omega
                case a5 => simp <;> omega
                intro v4 w4 hown4 hb4 hk4
                change Kp (.slice (some ⟨_, 0, none⟩) 0 0) v4 _ w4 at hk4
                have hB4 : Below wi.heap.size wi w4 := Below.trans (by go_grown) hb4
                refine hK.out _ _ (fun _ => hB4) ?_
                clear hK K
                try simp only [Act.put, List.setIfInBounds_toArray, List.set_cons_zero, List.set_cons_succ]
                refine kAO (rs := [14]) (by kernel_rfl) (by simp) ?_
                refine kAH.cons rfl (fun K hK => ?_) kAH.nil
                refine kCC kBI rfl (.tmp 106) (.tmp 114) rfl wi.heap.size _ ([] ++ out.take p) rfl (S := fun q => w.heap.size + 1 < q) hown4 _ ce [.string x.name, .slice p5 cx.params.length pc5, .string cx.result.elem, .string cx.result.shape.row, .slice t5 cx.result.shape.dims.length tc5, .slice q5 cx.wh.length qc5] rfl (REnt.below (w := wi) (REnt.mono HCi.out (fun q hq _ => ⟨hq.1, fun e => by have h1 := hown4.base_le q e; have h2 := hq.2; omega⟩)) hB4) (kA4 44 ((hk4.block (wi.heap.size + 1) (by simp) (by simp [Value.ownBlock])).trans (by (simp only [kAG, kAE, Array.getElem?_push, Array.size_push]; simp)))) (by have h1 := HLt.out.1; omega) (by have h1 := HLt.out.1; unfold maxLen; omega) hB4.size ?_
                intro v5 w5 hown5 hb5 hk5
                have hB5 : Below wi.heap.size wi w5 := Below.trans hB4 hb5
                refine hK.out _ _ (fun _ => hB5) ?_
                clear hK K
                try simp only [Act.put, List.setIfInBounds_toArray, List.set_cons_zero, List.set_cons_succ]
                refine kAO (rs := [19]) (by kernel_rfl) (by simp) ?_
                refine kAH.cons rfl (fun K hK => ?_) kAH.nil
                refine kBY kBI rfl (.tmp 115) (.tmp 119) rfl wi.heap.size _ (([] ++ out.take p) ++ [ce]) (out.drop p) rfl (S := fun q => w.heap.size + 1 < q) hown5 _ _ _ rfl ((HDr.out.below hB5).mono (fun q hq hlt => ⟨hq.1, fun e => by have h1 := hown5.base_le q e; have h2 := hq.2; omega⟩)) (by have h1 := HLt.out.2; omega) (by have h1 := HLt.out.2; unfold maxLen; omega) hB5.size ?_
                intro v6 w6 hown6 hb6 hk6
                obtain ⟨a6, m6, c6, rfl⟩ := hown6.shape
                have hB6 : Below wi.heap.size wi w6 := Below.trans hB5 hb6
                refine hK.out _ _ (fun _ => hB6) ?_
                clear hK K
                try simp only [Act.put, List.setIfInBounds_toArray, List.set_cons_zero, List.set_cons_succ]
                refine kAM (i := 20) (v := ?_) rfl (by kernel_rfl) (by kernel_rfl) (by kernel_rfl) (by kernel_rfl) (by kernel_rfl) (fun _ _ _ h => h) (Or.inl ⟨by rfl, ?_⟩) hB6 ?_
                rotate_left
                · (intro W hSw; skip; clear hSw; go_simp; first | done | (with_reducible rfl))
                try simp only [Act.put, List.setIfInBounds_toArray, List.set_cons_zero, List.set_cons_succ]
                have HO6 := HOi.out.below hB6 HOi.out.lt; have u1 := HO6.cell 1 _ rfl; have f1 := HO6.fz 1; have hl6 := HO6.lt
                refine kAO (rs := [21]) (by kernel_rfl) (by simp) ?_
                refine kAH.cons rfl (fun K hK => ?_) kAH.nil
                go_simp
                refine hK.out _ _ (fun h => absurd rfl h) ?_
                clear hK K
                refine kCW (by kernel_rfl) ?_ _
                go_wp2_with fail
                go_roundw
                case rel => exact ⟨i0 + 1, putE m p x, _, by omega, by go_num, HPu, hJ (by rw [← HL6.out]; exact kFN (hown6.lower (by omega)) (by omega) _), hJ (fun h => absurd h (by unfold putE; simp)), hJ ((HRi.out.below hB6 HRi.out.lt).other (by show w.heap.size + 1 ≠ w.heap.size; omega)), hJ (HO6.set 1 _), ((HB3.out.trans (HBi.out.mono HB3.out.size)).trans (hB6.mono (by omega))).setCell (by show w.heap.size ≤ w.heap.size + 1; omega) _, by simp; have := hB6.size; omega⟩
                case measure => simp [intOf]; omega
            · go_simp
              refine hK.out _ _ (fun _ => (by go_grown)) ?_
              clear hK K
              try simp only [Act.put, List.setIfInBounds_toArray, List.set_cons_zero, List.set_cons_succ]
              refine kAO (rs := [0]) (by kernel_rfl) (by simp) ?_
              refine kAH.cons rfl (fun K hK => ?_) kAH.nil
              go_simp
              refine hK.out _ _ (fun _ => (by go_grown)) ?_
              clear hK K
              try simp only [Act.put, List.setIfInBounds_toArray, List.set_cons_zero, List.set_cons_succ]
              refine kAO (rs := [5]) (by kernel_rfl) (by simp) ?_
              refine kAH.cons rfl (fun K hK => ?_) kAH.nil
              refine kBY kBI rfl (.tmp 101) (.tmp 105) rfl wi.heap.size _ [] (out.take p) rfl (S := fun q => w.heap.size + 1 < q) ?a1 _ _ _ rfl ?a2 ?a3 ?a4 ?a5 ?_
              case a1 => exact Own.at0 REnt _ _ (by (simp only [kAG, kAE, Array.getElem?_push, Array.size_push]; simp)) (by simp <;> omega)
              case a2 => exact ((HTk.out.below (by go_grown)).mono (fun q hq hlt => ⟨hq.1, fun e => by have h2 := hq.2; first | (have h4 : wi.heap.size = q := Option.some.inj e; omega) | (have h4 : wi.heap.size + 1 = q := (by simpa using Option.some.inj e); omega)⟩))
              case a3 => simp <;> omega
              case a4 => unfold maxLen; simp <;> omega
              case a5 => simp <;> omega
              intro v4 w4 hown4 hb4 hk4
              change Kp (.slice (some ⟨_, 0, none⟩) 0 0) v4 _ w4 at hk4
              have hB4 : Below wi.heap.size wi w4 := Below.trans (by go_grown) hb4
              refine hK.out _ _ (fun _ => hB4) ?_
              clear hK K
              try simp only [Act.put, List.setIfInBounds_toArray, List.set_cons_zero, List.set_cons_succ]
              refine kAO (rs := [14]) (by kernel_rfl) (by simp) ?_
              refine kAH.cons rfl (fun K hK => ?_) kAH.nil
              refine kCC kBI rfl (.tmp 106) (.tmp 114) rfl wi.heap.size _ ([] ++ out.take p) rfl (S := fun q => w.heap.size + 1 < q) hown4 _ ce [.string x.name, .slice p5 cx.params.length pc5, .string cx.result.elem, .string cx.result.shape.row, .slice t5 cx.result.shape.dims.length tc5, .slice q5 cx.wh.length qc5] rfl (REnt.below (w := wi) (REnt.mono HCi.out (fun q hq _ => ⟨hq.1, fun e => by have h1 := hown4.base_le q e; have h2 := hq.2; omega⟩)) hB4) (kA4 44 ((hk4.block wi.heap.size (by simp <;> omega) (by simp [Value.ownBlock])).trans (by (simp only [kAG, kAE, Array.getElem?_push, Array.size_push]; simp)))) (by have h1 := HLt.out.1; omega) (by have h1 := HLt.out.1; unfold maxLen; omega) hB4.size ?_
              intro v5 w5 hown5 hb5 hk5
              have hB5 : Below wi.heap.size wi w5 := Below.trans hB4 hb5
              refine hK.out _ _ (fun _ => hB5) ?_
              clear hK K
              try simp only [Act.put, List.setIfInBounds_toArray, List.set_cons_zero, List.set_cons_succ]
              refine kAO (rs := [19]) (by kernel_rfl) (by simp) ?_
              refine kAH.cons rfl (fun K hK => ?_) kAH.nil
              refine kBY kBI rfl (.tmp 115) (.tmp 119) rfl wi.heap.size _ (([] ++ out.take p) ++ [ce]) (out.drop p) rfl (S := fun q => w.heap.size + 1 < q) hown5 _ _ _ rfl ((HDr.out.below hB5).mono (fun q hq hlt => ⟨hq.1, fun e => by have h1 := hown5.base_le q e; have h2 := hq.2; omega⟩)) (by have h1 := HLt.out.2; omega) (by have h1 := HLt.out.2; unfold maxLen; omega) hB5.size ?_
              intro v6 w6 hown6 hb6 hk6
              obtain ⟨a6, m6, c6, rfl⟩ := hown6.shape
              have hB6 : Below wi.heap.size wi w6 := Below.trans hB5 hb6
              refine hK.out _ _ (fun _ => hB6) ?_
              clear hK K
              try simp only [Act.put, List.setIfInBounds_toArray, List.set_cons_zero, List.set_cons_succ]
              refine kAM (i := 20) (v := ?_) rfl (by kernel_rfl) (by kernel_rfl) (by kernel_rfl) (by kernel_rfl) (by kernel_rfl) (fun _ _ _ h => h) (Or.inl ⟨by rfl, ?_⟩) hB6 ?_
              rotate_left
              · (intro W hSw; skip; clear hSw; go_simp; first | done | (with_reducible rfl))
              try simp only [Act.put, List.setIfInBounds_toArray, List.set_cons_zero, List.set_cons_succ]
              have HO6 := HOi.out.below hB6 HOi.out.lt; have u1 := HO6.cell 1 _ rfl; have f1 := HO6.fz 1; have hl6 := HO6.lt
              refine kAO (rs := [21]) (by kernel_rfl) (by simp) ?_
              refine kAH.cons rfl (fun K hK => ?_) kAH.nil
              go_simp
              refine hK.out _ _ (fun h => absurd rfl h) ?_
              clear hK K
              refine kCW (by kernel_rfl) ?_ _
              go_wp2_with fail
              go_roundw
              case rel => exact ⟨i0 + 1, putE m p x, _, by omega, by go_num, HPu, hJ (by rw [← HL6.out]; exact kFN (hown6.lower (by omega)) (by omega) _), hJ (fun h => absurd h (by unfold putE; simp)), hJ ((HRi.out.below hB6 HRi.out.lt).other (by show w.heap.size + 1 ≠ w.heap.size; omega)), hJ (HO6.set 1 _), ((HB3.out.trans (HBi.out.mono HB3.out.size)).trans (hB6.mono (by omega))).setCell (by show w.heap.size ≤ w.heap.size + 1; omega) _, by simp; have := hB6.size; omega⟩
              case measure => simp [intOf]; omega
       · obtain rfl : i0 = k := by omega
         have HSd : Hid (Says mod l ⟨mod, m.map canE⟩ 0) := hJ (made_done HOk.out (by rw [HN.out]; exact HM.out))
         have d0 := HO.out.cell 0 _ rfl; have d1 := HO.out.cell 1 _ rfl; have z0 := HR.out.cell 0 _ rfl; have z1 := HR.out.cell 1 _ rfl; have f0 := HR.out.fz 0; have f1 := HR.out.fz 1; have hl0 := HR.out.lt
         have h60 : ¬((60 : Int) < (M : Int)) := by omega
         have HZz := hJ ((HR.out.set 0 (.string mod)).set 1 (.slice ao M co)); have s0 := HZz.out.cell 0 _ rfl; have s1 := HZz.out.cell 1 _ rfl
         go_wp2_with fail
         refine bodyPost_ret (v := .tuple #[.agg #[.string mod, .slice ao M co], .int .i64 0]) (by simp [results, results15, go_sem, s0, s1, hl0]) rfl ?_
         have hfr : Sl REnt (fun q => w.heap.size ≤ q) ((wr.setCell ⟨w.heap.size, 0, none⟩ (.string mod)).setCell ⟨w.heap.size, 1, none⟩ (.slice ao M co)) ao M co (m.map canE) := (HOs.out.frame (fun q hq _ => by
          have hne : w.heap.size ≠ q := by omega
          exact (kAA hne).trans (kAA hne))).mono (fun q hq _ => by omega)
         rw [HMl.out] at hfr ⊢
         exact ⟨⟨⟨mod, m.map canE⟩, 0, ao, co, rfl, HSd.out, hfr⟩, (hB.setCell (Nat.le_refl _) _).setCell (Nat.le_refl _) _⟩
theorem kD7 {S : Blk} {x : Ent} {cs : List Value} {s : Str} {w : World} (h : REnt.rd S w cs x) :
 Calls Tryz.prog 88 #[.agg cs.toArray, .string s] w fun e w' => e = .returned (.int .i64 (cmpS x.name s)) ∧ Below w.heap.size w w' := by
 obtain ⟨_, rfl, hx⟩ := h; obtain ⟨_, _, _, rfl, ⟨ap, cp, rfl, _⟩, ⟨at_, ct, rfl, _⟩, ⟨aq, cq, rfl, _⟩⟩ := hx; obtain ⟨B0, ya, hW0⟩ := box1 w 43 [.string x.name, .slice ap x.scheme.params.length cp, .string x.scheme.result.elem, .string x.scheme.result.shape.row, .slice at_ x.scheme.result.shape.dims.length ct, .slice aq x.scheme.wh.length cq]; have xa0 := box0 ya 0 _ rfl; have xa1 := box0 ya 1 _ rfl; have xa2 := box0 ya 2 _ rfl; have xa3 := box0 ya 3 _ rfl; have xa4 := box0 ya 4 _ rfl; have xa5 := box0 ya 5 _ rfl; clear ya
 go_enter func88, ntmps88
 go_wp2_with fail
 refine (kF5 _ _ _).mono ?_
 rintro e _ ⟨rfl, rfl⟩
 go_wp2_with fail
 go_ret
 exact ⟨rfl, B0.out⟩
theorem asc_at {l : List Ent} (h : Asc l) {p q : Nat} (hpq : p < q) (hq : q < l.length) : slt (l.getD p default).name (l.getD q default).name = true := by
 have := List.pairwise_iff_getElem.1 h p q (by omega) hq hpq
 rw [List.getD_eq_getElem?_getD, List.getElem?_eq_getElem (show p < l.length by omega), List.getD_eq_getElem?_getD, List.getElem?_eq_getElem hq]
 exact this
theorem cmpS_self (a : Str) : cmpS a a = 0 := by have := cmpS_anti a a; omega
theorem cmpS_zero {a b : Str} (h : cmpS a b = 0) : a = b := by
 have h1 : slt a b = false := by
  cases e : slt a b with
  | false => rfl
  | true => have := (kGF a b).2 e; omega
 have h2 : slt b a = false := by
  cases e : slt b a with
  | false => rfl
  | true => have := (kGF b a).2 e; have := cmpS_anti a b; omega
 exact kCO h1 h2
theorem bsearch_Ent {S : Blk} {l : List Ent} {a : Option Addr} {n c : Nat} {w : World} (hs : Sl REnt S w a n c l) (hn : n ≤ 1000) (s : Str) (hasc : Asc l) :
 Calls Tryz.prog 87 #[.slice a n c, .string s, .func (.func 88) #[] #[]] w fun e w' => (∃ (k : Nat) (b : Bool), k ≤ n ∧ e = .returned (.tuple #[.int .i64 k, .bool b]) ∧ (b = true → k < n ∧ (l.getD k default).name = s) ∧ (b = false → ∀ q, q < n → (l.getD q default).name ≠ s)) ∧ Below w.heap.size w w' := by
 have HS := hJ hs; have HL := hJ hs.len; have HAs := hJ hasc; clear hs hasc
 go_enter func87, ntmps87
 go_wp2_with fail
 go_loopw [9, 10] (fun lo hi wr => ∃ i j : Nat, i ≤ j ∧ j ≤ n ∧ lo = .int .i64 i ∧ hi = .int .i64 j ∧ Hid (∀ q, q < i → cmpS (l.getD q default).name s < 0) ∧ Hid (∀ q, j ≤ q → q < n → 0 ≤ cmpS (l.getD q default).name s) ∧ Below w.heap.size w wr) (fun lo hi _ => (intOf hi - intOf lo).toNat)
 case atStart => exact ⟨0, n, Nat.zero_le _, Nat.le_refl _, rfl, rfl, hJ (fun q h => absurd h (by omega)), hJ (fun q h1 h2 => absurd h1 (by omega)), Below.refl _ _⟩
 case round =>
  obtain ⟨i, j, hij, hjn, rfl, rfl, HLo, HHi, hB⟩ := hrel
  by_cases hlt : i < j
  · obtain ⟨m, hm⟩ : ∃ m : Nat, ((i : Int) + (j : Int)) / 2 = (m : Int) := ⟨(i + j) / 2, by omega⟩
    have h1 : i ≤ m := by omega
    have h2 : m < j := by omega
    have hmn : m < n := by omega
    obtain ⟨b, off, rfl, hbW, _⟩ := HS.out.form m hmn; obtain ⟨_, _, _, hr, ⟨⟨ap, cp, rfl, _⟩, ⟨at_, ct, rfl, _⟩, ⟨aq, cq, rfl, _⟩⟩, c0, c1, c2, c3, c4, c5⟩ := (HS.out.below hB).ent m hmn; have HC := hJ (kD7 (s := s) hr)
    have HLt : Hid (cmpS (l.getD m default).name s < 0 → ∀ q, q < m + 1 → cmpS (l.getD q default).name s < 0) := hJ (fun h q hq => by
     rcases Nat.lt_or_ge q m with r | r
     · exact (kGF _ _).2 (kBR (asc_at HAs.out r (by rw [HL.out]; exact hmn)) ((kGF _ _).1 h))
     · obtain rfl : q = m := by omega
       exact h)
    have HGe : Hid (0 ≤ cmpS (l.getD m default).name s → ∀ q, m ≤ q → q < n → 0 ≤ cmpS (l.getD q default).name s) := hJ (fun h q h3 h4 => by
     rcases Nat.lt_or_ge m q with r | r
     · rcases Int.lt_or_le (cmpS (l.getD q default).name s) 0 with u | u
       · have := (kGF _ _).2 (kBR (asc_at HAs.out r (by rw [HL.out]; exact h4)) ((kGF _ _).1 u))
         omega
       · exact u
     · obtain rfl : q = m := by omega
       exact h)
    clear hr
    generalize l.getD m default = y at *
    generalize cmpS y.name s = r at *
    by_cases hr : r < 0
    · have HLt := hJ (HLt.out hr)
      go_wp2_with fail
      refine HC.out.mono ?_
      rintro e w4 ⟨rfl, hb4⟩
      go_wp2_with fail
      go_roundw
      case rel => exact ⟨m + 1, j, by omega, hjn, by go_num, rfl, HLt, HHi, hB.trans (hb4.mono hB.size)⟩
      case measure => simp [intOf]; omega
    · have HGe := hJ (HGe.out (by omega))
      go_wp2_with fail
      refine HC.out.mono ?_
      rintro e w4 ⟨rfl, hb4⟩
      go_wp2_with fail
      go_roundw
      case rel => exact ⟨i, m, h1, by omega, rfl, by go_num, HLo, HGe, hB.trans (hb4.mono hB.size)⟩
      case measure => simp [intOf]; omega
  · obtain rfl : i = j := by omega
    by_cases hin : i < n
    · obtain ⟨b, off, rfl, hbW, _⟩ := HS.out.form i hin
      obtain ⟨_, _, _, hr, ⟨⟨ap, cp, rfl, _⟩, ⟨at_, ct, rfl, _⟩, ⟨aq, cq, rfl, _⟩⟩, c0, c1, c2, c3, c4, c5⟩ := (HS.out.below hB).ent i hin; have HC := hJ (kD7 (s := s) hr)
      have HYes : Hid (cmpS (l.getD i default).name s = 0 → (l.getD i default).name = s) := hJ cmpS_zero
      have HNo : Hid (cmpS (l.getD i default).name s ≠ 0 → ∀ q, q < n → (l.getD q default).name ≠ s) := hJ (fun h q hq e => by
       rcases Nat.lt_or_ge q i with u | u
       · have := HLo.out q u; rw [e, cmpS_self] at this; omega
       · rcases Nat.lt_or_ge i q with u2 | u2
         · have h3 := asc_at HAs.out u2 (by rw [HL.out]; exact hq)
           rw [e] at h3
           have := (kGF _ _).2 h3
           have := HHi.out i (Nat.le_refl _) hin
           omega
         · obtain rfl : q = i := by omega
           rw [e, cmpS_self] at h
           exact h rfl)
      clear hr
      have HEy : Hid (∀ z, l.getD i default = z → (l.getD i default).name = z.name) := hJ (fun z e => by rw [e])
      obtain ⟨y, hy⟩ : ∃ y, l.getD i default = y := ⟨_, rfl⟩; have HY := hJ hy; rw [hy] at HC HYes HNo c0 c1 c2 c3 c4 c5; clear hy HEy
      generalize cmpS y.name s = r at *
      by_cases hr : r = 0
      · subst hr
        have HYe := hJ (HYes.out rfl)
        go_wp2_with fail
        refine HC.out.mono ?_
        rintro e w4 ⟨rfl, hb4⟩
        go_wp2_with fail
        go_returns
        exact ⟨⟨i, true, by omega, rfl, fun _ => ⟨hin, by rw [HY.out]; exact HYe.out⟩, fun h => by cases h⟩, hB.trans (hb4.mono hB.size)⟩
      · have hq : (r == 0) = false := beq_eq_false_iff_ne.2 hr
        have HNe := hJ (HNo.out hr)
        go_wp2_with fail
        refine HC.out.mono ?_
        rintro e w4 ⟨rfl, hb4⟩
        go_wp2_with fail
        go_returns
        exact ⟨⟨i, false, by omega, rfl, fun h => absurd h (by decide), fun _ => HNe.out⟩, hB.trans (hb4.mono hB.size)⟩
    · obtain rfl : i = n := by omega
      have HNe : Hid (∀ q, q < i → (l.getD q default).name ≠ s) := hJ (fun q hq e => by have := HLo.out q hq; rw [e, cmpS_self] at this; omega)
      go_wp2_with fail
      go_returns
      exact ⟨⟨i, false, by omega, rfl, fun h => absurd h (by decide), fun _ => HNe.out⟩, hB⟩
def At1 (l : List Ent) (s : Str) (r : Int) : Prop := (∃ k : Nat, r = k ∧ k < l.length ∧ (l.getD k default).name = s) ∨ (r = -1 ∧ ∀ q, q < l.length → (l.getD q default).name ≠ s)
theorem kE9 {S : Blk} {x : Ifc} {a : Option Addr} {c : Nat} {w : World} (hs : Sl REnt S w a x.entries.length c x.entries) (hn : x.entries.length ≤ 1000) (s : Str) (hasc : Asc x.entries) :
 Calls Tryz.prog 41 #[.agg #[.string x.module_, .slice a x.entries.length c], .string s] w fun e w' => (∃ r : Int, e = .returned (.int .i64 r) ∧ At1 x.entries s r) ∧ Below w.heap.size w w' := by
 have hm := hs.small; have HS := hJ hs; have HAs := hJ hasc; clear hs hasc; obtain ⟨n, hnl⟩ : ∃ n, x.entries.length = n := ⟨_, rfl⟩; have HL := hJ hnl; rw [hnl] at HS hn hm; rw [hnl]; clear hnl; obtain ⟨B0, ya, hW0⟩ := box1 w 29 [.string x.module_, .slice a n c]; have xa0 := box0 ya 0 _ rfl; have xa1 := box0 ya 1 _ rfl; clear ya; have HC := hJ (bsearch_Ent (HS.out.below B0.out) hn s HAs.out)
 go_enter func41, ntmps41
 go_wp2_with fail
 refine HC.out.mono ?_
 rintro e w1 ⟨⟨k, b, hk, rfl, hyes, hno⟩, hb⟩
 have HY := hJ hyes; have HNo := hJ hno; clear hyes hno
 cases b with
 | true =>
   go_wp2_with fail
   go_ret
   exact ⟨⟨_, rfl, .inl ⟨k, rfl, by rw [HL.out]; exact (HY.out (by decide)).1, (HY.out (by decide)).2⟩⟩, B0.out.trans (hb.mono B0.out.size)⟩
 | false =>
   go_wp2_with fail
   go_ret
   exact ⟨⟨_, rfl, .inr ⟨rfl, fun q hq => HNo.out (by decide) q (by rw [HL.out] at hq; exact hq)⟩⟩, B0.out.trans (hb.mono B0.out.size)⟩
theorem adj_asc : ∀ (l : List Ent), (∀ i, 0 < i → i < l.length → slt (l.getD (i - 1) default).name (l.getD i default).name = true) → Asc l
 | [], _ => List.Pairwise.nil
 | [a], _ => List.pairwise_cons.2 ⟨fun u hu => by simp at hu, List.Pairwise.nil⟩
 | a :: b :: l, h => by
   have ih := adj_asc (b :: l) (fun i h0 hi => by
    have := h (i + 1) (by omega) (by simp at hi ⊢; omega)
    obtain ⟨j, rfl⟩ : ∃ j, i = j + 1 := ⟨i - 1, by omega⟩
    simpa using this)
   have hab : slt a.name b.name = true := by simpa using h 1 (by omega) (by simp)
   refine List.pairwise_cons.2 ⟨fun u hu => ?_, ih⟩
   rcases List.mem_cons.1 hu with rfl | hu
   · exact hab
   · exact kBR hab ((List.pairwise_cons.1 ih).1 u hu)
theorem kE5 {x : Ifc} (h : kAS x = true) : Asc x.entries := by
 unfold kAS at h
 rw [Bool.and_eq_true, List.all_eq_true] at h
 refine adj_asc _ (fun i h0 hi => ?_)
 have := h.1 i (List.mem_range.2 hi)
 unfold entAt at this
 rw [Bool.and_eq_true, Bool.and_eq_true, Bool.or_eq_true] at this
 rcases this.2.2 with q | q
 · have : i = 0 := by simpa using q
   omega
 · exact q
theorem valid_len {x : Ifc} (h : kAS x = true) : x.entries.length ≤ 60 := by
 unfold kAS at h
 rw [Bool.and_eq_true, Bool.and_eq_true] at h
 exact of_decide_eq_true h.2.2
theorem asc_one {l : List Ent} (h : Asc l) {a b : Ent} (ha : a ∈ l) (hb : b ∈ l) (e : a.name = b.name) : a = b := by
 obtain ⟨i, hi, rfl⟩ := List.getElem_of_mem ha; obtain ⟨j, hj, rfl⟩ := List.getElem_of_mem hb
 rcases Nat.lt_trichotomy i j with q | q | q
 · have := List.pairwise_iff_getElem.1 h i j hi hj q
   rw [e, kBZ] at this; cases this
 · subst q; rfl
 · have := List.pairwise_iff_getElem.1 h j i hj hi q
   rw [e, kBZ] at this; cases this
def kE2 (x : Ifc) (s : Str) (r : Sch) (ok : Bool) : Prop := (ok = true ∧ kAS x = true ∧ ∃ e ∈ x.entries, e.name = s ∧ r = e.scheme) ∨ (ok = false ∧ r = kCQ ∧ (kAS x = false ∨ ∀ e ∈ x.entries, e.name ≠ s))
theorem finds_uniq {x : Ifc} {s : Str} {r r' : Sch} {ok ok' : Bool} (h : kE2 x s r ok) (h' : kE2 x s r' ok') : ok = ok' ∧ r = r' := by
 rcases h with ⟨a1, a2, e, he, a3, a4⟩ | ⟨a1, a2, a3⟩
 · rcases h' with ⟨b1, b2, e', he', b3, b4⟩ | ⟨b1, b2, b3⟩
   · have := asc_one (kE5 a2) he he' (a3.trans b3.symm)
     exact ⟨a1.trans b1.symm, by rw [a4, b4, this]⟩
   · rcases b3 with q | q
     · rw [q] at a2; cases a2
     · exact absurd a3 (q e he)
 · rcases h' with ⟨b1, b2, e', he', b3, b4⟩ | ⟨b1, b2, b3⟩
   · rcases a3 with q | q
     · rw [q] at b2; cases b2
     · exact absurd b3 (q e' he')
   · exact ⟨a1.trans b1.symm, a2.trans b2.symm⟩
theorem finds_bad {x : Ifc} {s : Str} (h : kAS x = false) : kE2 x s kCQ false := .inr ⟨rfl, rfl, .inl h⟩
theorem finds_none {x : Ifc} {s : Str} (h : ∀ q, q < x.entries.length → (x.entries.getD q default).name ≠ s) : kE2 x s kCQ false := .inr ⟨rfl, rfl, .inr fun e he => by
 obtain ⟨i, hi, q⟩ := List.getElem_of_mem he
 have := h i hi
 rw [List.getD_eq_getElem?_getD, List.getElem?_eq_getElem hi] at this
 rw [← q]; exact this⟩
theorem finds_hit {x : Ifc} {s : Str} {k : Nat} (hv : kAS x = true) (hk : k < x.entries.length) (e : (x.entries.getD k default).name = s) : kE2 x s (x.entries.getD k default).scheme true := .inl ⟨rfl, hv, _, kAI hk, e, rfl⟩
def NarS (x : Ifc) (ns : List Str) (A : Ifc) (e : Int) : Prop :=
 (kAS x = false ∧ A = kCL ∧ e = 1) ∨ (kAS x = true ∧ (∃ s ∈ ns, ∀ y ∈ x.entries, y.name ≠ s) ∧ A = kCL ∧ e = 7) ∨ (kAS x = true ∧ (∀ s ∈ ns, ∃ y ∈ x.entries, y.name = s) ∧ e = 0 ∧ A.module_ = x.module_ ∧ Asc A.entries ∧ ∀ y, y ∈ A.entries ↔ (y ∈ x.entries ∧ y.name ∈ ns))
theorem nars_uniq {x : Ifc} {ns : List Str} {A B : Ifc} {e f : Int} (h : NarS x ns A e) (h' : NarS x ns B f) : e = f ∧ A = B := by
 rcases h with ⟨a1, rfl, rfl⟩ | ⟨a1, ⟨s, hs, a2⟩, rfl, rfl⟩ | ⟨a1, a2, rfl, a3, a4, a5⟩
 · rcases h' with ⟨b1, rfl, rfl⟩ | ⟨b1, _⟩ | ⟨b1, _⟩
   · exact ⟨rfl, rfl⟩
   · rw [a1] at b1; cases b1
   · rw [a1] at b1; cases b1
 · rcases h' with ⟨b1, _⟩ | ⟨_, _, rfl, rfl⟩ | ⟨_, b2, _⟩
   · rw [a1] at b1; cases b1
   · exact ⟨rfl, rfl⟩
   · obtain ⟨y, hy, q⟩ := b2 s hs
     exact absurd q (a2 y hy)
 · rcases h' with ⟨b1, _⟩ | ⟨_, ⟨s, hs, b2⟩, _⟩ | ⟨_, b2, rfl, b3, b4, b5⟩
   · rw [a1] at b1; cases b1
   · obtain ⟨y, hy, q⟩ := a2 s hs
     exact absurd q (b2 y hy)
   · refine ⟨rfl, ?_⟩
     obtain ⟨Am, Ae⟩ := A; obtain ⟨Bm, Be⟩ := B
     have e1 : Am = Bm := a3.trans b3.symm
     have e2 : Ae = Be := pw_ext (r := fun a b : Ent => slt a.name b.name = true) (fun a q => by rw [kBZ] at q; cases q) (fun a b c => kBR) _ _ a4 b4 (fun y => (a5 y).trans (b5 y).symm)
     rw [e1, e2]
theorem nars_bad {x : Ifc} {ns : List Str} (h : kAS x = false) : NarS x ns kCL 1 := .inl ⟨h, rfl, rfl⟩
theorem nars_none {x : Ifc} {ns : List Str} {s : Str} (hv : kAS x = true) (hs : s ∈ ns) (h : ∀ q, q < x.entries.length → (x.entries.getD q default).name ≠ s) : NarS x ns kCL 7 := .inr (.inl ⟨hv, ⟨s, hs, fun y hy e => by
 obtain ⟨i, hi, q⟩ := List.getElem_of_mem hy
 have := h i hi
 rw [List.getD_eq_getElem?_getD, List.getElem?_eq_getElem hi] at this
 exact this (by rw [← e, ← q]; rfl)⟩, rfl, rfl⟩)
theorem nars_sig {x : Ifc} {ns cs : List Str} {m : List Ent} (hv : kAS x = true) (ha : cs.Pairwise fun a b => slt a b = true) (hm : ∀ s, s ∈ cs ↔ s ∈ ns) (he : m.map Ent.name = cs) (hi : ∀ y ∈ m, y ∈ x.entries) : NarS x ns ⟨x.module_, m⟩ 0 := by
 have hx : ∀ s ∈ ns, ∃ y ∈ m, y.name = s := fun s hs => by
  have := (hm s).2 hs
  rw [← he] at this; obtain ⟨y, hy, q⟩ := List.mem_map.1 this
  exact ⟨y, hy, q⟩
 refine .inr (.inr ⟨hv, fun s hs => ?_, rfl, rfl, ?_, fun y => ⟨fun hy => ⟨hi y hy, (hm _).1 (by rw [← he]; exact List.mem_map.2 ⟨y, hy, rfl⟩)⟩, fun ⟨h1, h2⟩ => ?_⟩⟩)
 · obtain ⟨y, hy, q⟩ := hx s hs
   exact ⟨y, hi y hy, q⟩
 · rw [← he, List.pairwise_map] at ha; exact ha
 · obtain ⟨z, hz, q⟩ := hx _ h2
   rw [asc_one (kE5 hv) h1 (hi z hz) q.symm]; exact hz
def kE4 (ns : List Str) (y : Ent) : Bool := ns.any (fun s => seq s y.name)
theorem nars_ref {x : Ifc} {ns : List Str} (hv : kAS x = true) (h : ∀ s ∈ ns, ∃ y ∈ x.entries, y.name = s) : NarS x ns ⟨x.module_, x.entries.filter (kE4 ns)⟩ 0 := by
 refine .inr (.inr ⟨hv, h, rfl, rfl, (kE5 hv).sublist List.filter_sublist, fun y => ?_⟩)
 rw [List.mem_filter]
 refine and_congr_right fun _ => ?_
 unfold kE4
 rw [List.any_eq_true]
 constructor
 · rintro ⟨s, hs, q⟩
   rw [← (kA7 _ _).1 q]; exact hs
 · intro q; exact ⟨_, q, (kA7 _ _).2 rfl⟩
theorem want_next {ns : List Str} {l : List Ent} {k : Nat} (hk : k < l.length) : (l.take (k + 1)).filter (kE4 ns) = (l.take k).filter (kE4 ns) ++ (if kE4 ns (l.getD k default) then [l.getD k default] else []) := by
 rw [kAU hk, List.filter_append]
 congr 1
 rw [List.filter_cons]
 split <;> rfl
theorem nars_few {x : Ifc} {ns : List Str} {A : Ifc} {e : Int} (h : NarS x ns A e) : A.entries.length ≤ x.entries.length ∧ ∀ y ∈ A.entries, y ∈ x.entries := by
 rcases h with ⟨_, rfl, _⟩ | ⟨_, _, rfl, _⟩ | h
 · exact ⟨Nat.zero_le _, fun y hy => absurd hy (List.not_mem_nil)⟩
 · exact ⟨Nat.zero_le _, fun y hy => absurd hy (List.not_mem_nil)⟩
 · have h' : NarS x ns A e := .inr (.inr h)
   have := (nars_uniq h' (nars_ref h.1 h.2.1)).2
   rw [this]
   exact ⟨List.length_filter_le _ _, fun y hy => (List.mem_filter.1 hy).1⟩
theorem finds_few {x : Ifc} {s : Str} {r : Sch} {ok : Bool} (h : kE2 x s r ok) (hx : ∀ e ∈ x.entries, e.scheme.params.length ≤ 1000000) : r.params.length ≤ 1000000 := by
 rcases h with ⟨_, _, e, he, _, rfl⟩ | ⟨_, rfl, _⟩
 · exact hx e he
 · exact Nat.zero_le _
theorem noSch_rd (S : Blk) (w : World) : RSch.rd S w [.slice none 0 0, .string ⟨#[]⟩, .string ⟨#[]⟩, .slice none 0 0, .slice none 0 0] kCQ :=
 ⟨_, _, _, rfl, ⟨none, 0, rfl, Sl.empty _ _ _⟩, ⟨none, 0, rfl, Sl.empty _ _ _⟩, ⟨none, 0, rfl, Sl.empty _ _ _⟩⟩
theorem heap_set0 {w : World} {g : Nat} {v0 v1 v2 v3 v4 : Value} {q : Nat} (hq : q ≠ g) : (((((w.setCell ⟨g, 0, none⟩ v0).setCell ⟨g, 1, none⟩ v1).setCell ⟨g, 2, none⟩ v2).setCell ⟨g, 3, none⟩ v3).setCell ⟨g, 4, none⟩ v4).heap[q]? = w.heap[q]? :=
 (kAA (fun e => hq e.symm)).trans ((kAA (fun e => hq e.symm)).trans ((kAA (fun e => hq e.symm)).trans ((kAA (fun e => hq e.symm)).trans (kAA (fun e => hq e.symm)))))
theorem ref57_Find {S : Blk} {x : Ifc} {a : Option Addr} {c : Nat} {w : World} (hs : Sl REnt S w a x.entries.length c x.entries) (hz : ∀ e ∈ x.entries, szS e.scheme ∧ e.name.size ≤ 281474976710656 ∧ e.scheme.params.length ≤ 1000000) (hmz : x.module_.size ≤ 281474976710656) (s : Str) :
 Calls Tryz.prog 20 #[.agg #[.string x.module_, .slice a x.entries.length c], .string s] w fun e w' => (∃ (r : Sch) (ok : Bool) (ds : List Value), e = .returned (.tuple #[.agg ds.toArray, .bool ok]) ∧ kE2 x s r ok ∧ RSch.rd (fun k => S k ∧ k < w.heap.size) w' ds r) ∧ Below w.heap.size w w' := by
 have hm := hs.small
 have HV := hJ (fun (W : World) (hW : Below w.heap.size w W) => kF6 (hs.below hW) hz hmz)
 have H := hJ (hs.mono (S' := fun k => S k ∧ k < w.heap.size) (fun k hk h => ⟨hk, h⟩))
 clear hs hz; obtain ⟨bv, hbv⟩ : ∃ bv, kAS x = bv := ⟨_, rfl⟩; rw [hbv] at HV; have HBv := hJ hbv; clear hbv
 generalize hl1 : x.entries.length = n at *
 have HL := hJ hl1; clear hl1; obtain ⟨B0, ya, yb, hW0⟩ := box2 w 24 [.string x.module_, .slice a n c] 41 [.slice none 0 0, .string ⟨#[]⟩, .string ⟨#[]⟩, .slice none 0 0, .slice none 0 0]; have xa0 := box0 ya 0 _ rfl; have xa1 := box0 ya 1 _ rfl; have xb0 := box0 yb 0 _ rfl; have xb1 := box0 yb 1 _ rfl; have xb2 := box0 yb 2 _ rfl; have xb3 := box0 yb 3 _ rfl; have xb4 := box0 yb 4 _ rfl
 have bka : Bx _ _ _ _ := ya; have bkb : Bx _ _ _ _ := yb
 clear ya yb; have HA0 := hJ bka; have HR0 := hJ bkb; clear bka bkb xa0 xa1 xb0 xb1 xb2 xb3 xb4 hW0
 go_enter func20, ntmps20
 go_wp2_with fail
 generalize ((w.alloc (.cells #[.string x.module_, .slice a n c] 24)).alloc (.cells #[.slice none 0 0, .string ⟨#[]⟩, .string ⟨#[]⟩, .slice none 0 0, .slice none 0 0] 41)) = W at *
 go_loopw [6] (fun i wr => ∃ k : Nat, k ≤ n ∧ i = .int .i64 k ∧ Hid (∀ j, j < k → (x.entries.getD j default).name ≠ s) ∧ Hid (Bx wr w.heap.size 24 [.string x.module_, .slice a n c]) ∧ Hid (Bx wr (w.heap.size + 1) 41 [.slice none 0 0, .string ⟨#[]⟩, .string ⟨#[]⟩, .slice none 0 0, .slice none 0 0]) ∧ Below w.heap.size w wr) (fun i _ => n - (intOf i).toNat)
 case atStart => exact ⟨0, Nat.zero_le _, rfl, fun j hj => absurd hj (by omega), HA0, HR0, B0.out⟩
 case round =>
  obtain ⟨k, hk, rfl, HT, HA, HR, hB⟩ := hrel; have d0 := HA.out.cell 0 _ rfl; have d1 := HA.out.cell 1 _ rfl
  by_cases hlt : k < n
  · obtain ⟨b, off, rfl, hbW, _⟩ := H.out.form k hlt
    have HC := hJ (HV.out wr hB)
    go_wp2_with fail
    refine HC.out.mono ?_
    rintro e w2 ⟨rfl, hb2⟩
    have HB2 := hJ (hB.trans (hb2.mono hB.size)); have HA2 := hJ (HA.out.below hb2 HA.out.lt); have HR2 := hJ (HR.out.below hb2 HR.out.lt); clear hb2 HA HR d0 d1 HC HV HA0 HR0
    cases bv with
    | false =>
      have HF : Hid (kE2 x s kCQ false) := hJ (finds_bad HBv.out)
      have v0 := HR2.out.cell 0 _ rfl; have v1 := HR2.out.cell 1 _ rfl; have v2 := HR2.out.cell 2 _ rfl; have v3 := HR2.out.cell 3 _ rfl; have v4 := HR2.out.cell 4 _ rfl; have u0 := HR2.out.fz 0; have u1 := HR2.out.fz 1; have u2 := HR2.out.fz 2; have u3 := HR2.out.fz 3; have u4 := HR2.out.fz 4; have hlr := HR2.out.lt; have HX60 := hJ (((((HR2.out.set 0 (.slice none 0 0)).set 1 (.string ⟨#[]⟩)).set 2 (.string ⟨#[]⟩)).set 3 (.slice none 0 0)).set 4 (.slice none 0 0)); have s0 := HX60.out.cell 0 _ rfl; have s1 := HX60.out.cell 1 _ rfl; have s2 := HX60.out.cell 2 _ rfl; have s3 := HX60.out.cell 3 _ rfl; have s4 := HX60.out.cell 4 _ rfl
      go_wp2_with fail
      refine bodyPost_ret (v := .tuple #[.agg #[.slice none 0 0, .string ⟨#[]⟩, .string ⟨#[]⟩, .slice none 0 0, .slice none 0 0], .bool false]) (by simp [results, results20, go_sem, s0, s1, s2, s3, s4, hlr]) rfl ?_
      refine ⟨⟨_, _, [.slice none 0 0, .string ⟨#[]⟩, .string ⟨#[]⟩, .slice none 0 0, .slice none 0 0], rfl, HF.out, noSch_rd _ _⟩, ?_⟩
      repeat (first | exact HB2.out | refine Below.setCell ?_ (by show _ ≤ w.heap.size + 1; omega) _)
    | true =>
      have d1 := HA2.out.cell 1 _ rfl; obtain ⟨_, _, _, hr, ⟨⟨ap, cp, rfl, _⟩, ⟨at_, ct, rfl, _⟩, ⟨aq, cq, rfl, _⟩⟩, c0, c1, c2, c3, c4, c5⟩ := (H.out.below HB2.out).ent k hlt; obtain ⟨_, e1, hr⟩ := hr
      cases e1
      have HK : Hid (k < x.entries.length) := hJ (by rw [HL.out]; exact hlt)
      have HHit : Hid ((x.entries.getD k default).name = s → kE2 x s (x.entries.getD k default).scheme true) := hJ (fun q => finds_hit HBv.out HK.out q)
      have HTn := hJ (fun q => upto HT.out (p := fun j => (x.entries.getD j default).name ≠ s) q)
      have HRd := hJ hr; clear hr
      generalize x.entries.getD k default = t at *
      by_cases he : (t.name.toList == s.toList) = true
      · have HF := hJ (HHit.out ((kA7 _ _).1 he))
        have v0 := HR2.out.cell 0 _ rfl; have v1 := HR2.out.cell 1 _ rfl; have v2 := HR2.out.cell 2 _ rfl; have v3 := HR2.out.cell 3 _ rfl; have v4 := HR2.out.cell 4 _ rfl; have u0 := HR2.out.fz 0; have u1 := HR2.out.fz 1; have u2 := HR2.out.fz 2; have u3 := HR2.out.fz 3; have u4 := HR2.out.fz 4; have hlr := HR2.out.lt; have HX60 := hJ (((((HR2.out.set 0 (.slice ap t.scheme.params.length cp)).set 1 (.string t.scheme.result.elem)).set 2 (.string t.scheme.result.shape.row)).set 3 (.slice at_ t.scheme.result.shape.dims.length ct)).set 4 (.slice aq t.scheme.wh.length cq)); have s0 := HX60.out.cell 0 _ rfl; have s1 := HX60.out.cell 1 _ rfl; have s2 := HX60.out.cell 2 _ rfl; have s3 := HX60.out.cell 3 _ rfl; have s4 := HX60.out.cell 4 _ rfl
        go_wp2_with fail
        refine bodyPost_ret (v := .tuple #[.agg #[.slice ap t.scheme.params.length cp, .string t.scheme.result.elem, .string t.scheme.result.shape.row, .slice at_ t.scheme.result.shape.dims.length ct, .slice aq t.scheme.wh.length cq], .bool true]) (by simp [results, results20, go_sem, s0, s1, s2, s3, s4, hlr]) rfl ?_
        refine ⟨⟨_, _, [.slice ap t.scheme.params.length cp, .string t.scheme.result.elem, .string t.scheme.result.shape.row, .slice at_ t.scheme.result.shape.dims.length ct, .slice aq t.scheme.wh.length cq], rfl, HF.out, RSch.frame HRd.out (fun q hq _ => ?_)⟩, ?_⟩
        · exact heap_set0 (by have := hq.2; omega)
        · repeat (first | exact HB2.out | refine Below.setCell ?_ (by show _ ≤ w.heap.size + 1; omega) _)
      · have he : (t.name.toList == s.toList) = false := by simpa using he
        have HTm := hJ (HTn.out (fun q => by have h := (kA7 t.name s).2 q; unfold seq at h; rw [h] at he; cases he))
        clear HTn HHit
        go_wp2_with fail
        go_roundw
        case rel => exact ⟨k + 1, by omega, by go_num, HTm, HA2, HR2, HB2.out⟩
        case measure => simp [intOf]; omega
  · have HB2 := hJ hB
    have HR2 := HR
    have HF : Hid (kE2 x s kCQ false) := hJ (finds_none (fun j hj => HT.out j (by rw [HL.out] at hj; omega)))
    clear HV HA0 HR0 HR; have v0 := HR2.out.cell 0 _ rfl; have v1 := HR2.out.cell 1 _ rfl; have v2 := HR2.out.cell 2 _ rfl; have v3 := HR2.out.cell 3 _ rfl; have v4 := HR2.out.cell 4 _ rfl; have u0 := HR2.out.fz 0; have u1 := HR2.out.fz 1; have u2 := HR2.out.fz 2; have u3 := HR2.out.fz 3; have u4 := HR2.out.fz 4; have hlr := HR2.out.lt; have HX60 := hJ (((((HR2.out.set 0 (.slice none 0 0)).set 1 (.string ⟨#[]⟩)).set 2 (.string ⟨#[]⟩)).set 3 (.slice none 0 0)).set 4 (.slice none 0 0)); have s0 := HX60.out.cell 0 _ rfl; have s1 := HX60.out.cell 1 _ rfl; have s2 := HX60.out.cell 2 _ rfl; have s3 := HX60.out.cell 3 _ rfl; have s4 := HX60.out.cell 4 _ rfl
    go_wp2_with fail
    refine bodyPost_ret (v := .tuple #[.agg #[.slice none 0 0, .string ⟨#[]⟩, .string ⟨#[]⟩, .slice none 0 0, .slice none 0 0], .bool false]) (by simp [results, results20, go_sem, s0, s1, s2, s3, s4, hlr]) rfl ?_
    refine ⟨⟨_, _, [.slice none 0 0, .string ⟨#[]⟩, .string ⟨#[]⟩, .slice none 0 0, .slice none 0 0], rfl, HF.out, noSch_rd _ _⟩, ?_⟩
    repeat (first | exact HB2.out | refine Below.setCell ?_ (by show _ ≤ w.heap.size + 1; omega) _)
theorem signature_Find {S : Blk} {x : Ifc} {a : Option Addr} {c : Nat} {w : World} (hs : Sl REnt S w a x.entries.length c x.entries) (hz : ∀ e ∈ x.entries, szS e.scheme ∧ e.name.size ≤ 281474976710656) (hmz : x.module_.size ≤ 281474976710656) (E : Env w) (s : Str) :
 Calls Tryz.prog 19 #[.agg #[.string x.module_, .slice a x.entries.length c], .string s] w fun e w' => (∃ (r : Sch) (ok : Bool) (ds : List Value), e = .returned (.tuple #[.agg ds.toArray, .bool ok]) ∧ kE2 x s r ok ∧ RSch.rd (fun k => S k ∧ k < w.heap.size) w' ds r) ∧ Below w.heap.size w w' := by
 have hm := hs.small
 have HV := hJ (fun (W : World) (hW : Below w.heap.size w W) => kB9 (hs.below hW) hz hmz (E.below hW))
 have HP := hJ (fun (q : kAS x = true) (W : World) (hW : Below w.heap.size w W) => kE9 (hs.below hW) (Nat.le_trans (valid_len q) (by decide)) s (kE5 q))
 have H := hJ (hs.mono (S' := fun k => S k ∧ k < w.heap.size) (fun k hk h => ⟨hk, h⟩))
 clear hs hz E; obtain ⟨bv, hbv⟩ : ∃ bv, kAS x = bv := ⟨_, rfl⟩; rw [hbv] at HV; have HBv := hJ hbv; clear hbv
 have HN : Hid (∀ r, At1 x.entries s r → (∃ k : Nat, r = k ∧ k < x.entries.length ∧ (x.entries.getD k default).name = s) ∨ (r = -1 ∧ ∀ q, q < x.entries.length → (x.entries.getD q default).name ≠ s)) := hJ (fun r h => h)
 obtain ⟨n, hl1⟩ : ∃ n, x.entries.length = n := ⟨_, rfl⟩; rw [hl1] at HV HP H hm; rw [hl1]; have HL := hJ hl1; clear hl1; obtain ⟨B0, ya, yb, hW0⟩ := box2 w 29 [.string x.module_, .slice a n c] 41 [.slice none 0 0, .string ⟨#[]⟩, .string ⟨#[]⟩, .slice none 0 0, .slice none 0 0]; have xa0 := box0 ya 0 _ rfl; have xa1 := box0 ya 1 _ rfl; have xb0 := box0 yb 0 _ rfl; have xb1 := box0 yb 1 _ rfl; have xb2 := box0 yb 2 _ rfl; have xb3 := box0 yb 3 _ rfl; have xb4 := box0 yb 4 _ rfl
 have bka : Bx _ _ _ _ := ya; have bkb : Bx _ _ _ _ := yb
 clear ya yb; have HA0 := hJ bka; have HR0 := hJ bkb; clear bka bkb xb0 xb1 xb2 xb3 xb4 hW0
 go_enter func19, ntmps19
 go_wp2_with fail
 refine (HV.out _ B0.out).mono ?_
 rintro e w1 ⟨rfl, hb1⟩
 have HB1 := hJ (B0.out.trans (hb1.mono B0.out.size)); have HA1 := hJ (HA0.out.below hb1 HA0.out.lt); have HR1 := hJ (HR0.out.below hb1 HR0.out.lt); clear hb1 HA0 HR0 xa0 xa1 B0
 cases bv with
 | false =>
   have HF : Hid (kE2 x s kCQ false) := hJ (finds_bad HBv.out)
   have HB2 := HB1; have HR2 := HR1; have v0 := HR2.out.cell 0 _ rfl; have v1 := HR2.out.cell 1 _ rfl; have v2 := HR2.out.cell 2 _ rfl; have v3 := HR2.out.cell 3 _ rfl; have v4 := HR2.out.cell 4 _ rfl; have u0 := HR2.out.fz 0; have u1 := HR2.out.fz 1; have u2 := HR2.out.fz 2; have u3 := HR2.out.fz 3; have u4 := HR2.out.fz 4; have hlr := HR2.out.lt; have HX60 := hJ (((((HR2.out.set 0 (.slice none 0 0)).set 1 (.string ⟨#[]⟩)).set 2 (.string ⟨#[]⟩)).set 3 (.slice none 0 0)).set 4 (.slice none 0 0)); have s0 := HX60.out.cell 0 _ rfl; have s1 := HX60.out.cell 1 _ rfl; have s2 := HX60.out.cell 2 _ rfl; have s3 := HX60.out.cell 3 _ rfl; have s4 := HX60.out.cell 4 _ rfl
   go_wp2_with fail
   refine bodyPost_ret (v := .tuple #[.agg #[.slice none 0 0, .string ⟨#[]⟩, .string ⟨#[]⟩, .slice none 0 0, .slice none 0 0], .bool false]) (by simp [results, results19, go_sem, s0, s1, s2, s3, s4, hlr]) rfl ?_
   refine ⟨⟨_, _, [.slice none 0 0, .string ⟨#[]⟩, .string ⟨#[]⟩, .slice none 0 0, .slice none 0 0], rfl, HF.out, noSch_rd _ _⟩, ?_⟩
   repeat (first | exact HB2.out | refine Below.setCell ?_ (by show _ ≤ w.heap.size + 1; omega) _)
 | true =>
   have HC := hJ (HP.out HBv.out w1 HB1.out); have d0 := HA1.out.cell 0 _ rfl; have d1 := HA1.out.cell 1 _ rfl
   go_wp2_with fail
   refine HC.out.mono ?_
   rintro e w2 ⟨⟨r, rfl, hat⟩, hb2⟩
   have HAt := hJ hat; have HB2 := hJ (HB1.out.trans (hb2.mono HB1.out.size)); have HA2 := hJ (HA1.out.below hb2 HA1.out.lt); have HR2 := hJ (HR1.out.below hb2 HR1.out.lt); clear hb2 HA1 HR1 d0 d1 HC HV hat
   rcases HN.out r HAt.out with ⟨k, hk, hlt, he⟩ | ⟨hr, hno⟩
   · have hlt : k < n := by rw [← HL.out]; exact hlt
     have HF := hJ (finds_hit HBv.out (by rw [HL.out]; exact hlt) he)
     subst hk; clear he HAt HN
     have hk0 : ¬((k : Int) < 0) := by omega
     obtain ⟨b, off, rfl, hbW, _⟩ := H.out.form k hlt; have d1 := HA2.out.cell 1 _ rfl; obtain ⟨_, _, _, hr, ⟨⟨ap, cp, rfl, _⟩, ⟨at_, ct, rfl, _⟩, ⟨aq, cq, rfl, _⟩⟩, c0, c1, c2, c3, c4, c5⟩ := (H.out.below HB2.out).ent k hlt; obtain ⟨_, e1, hr⟩ := hr
     cases e1
     have HRd := hJ hr; clear hr
     generalize x.entries.getD k default = t at *
     have v0 := HR2.out.cell 0 _ rfl; have v1 := HR2.out.cell 1 _ rfl; have v2 := HR2.out.cell 2 _ rfl; have v3 := HR2.out.cell 3 _ rfl; have v4 := HR2.out.cell 4 _ rfl; have u0 := HR2.out.fz 0; have u1 := HR2.out.fz 1; have u2 := HR2.out.fz 2; have u3 := HR2.out.fz 3; have u4 := HR2.out.fz 4; have hlr := HR2.out.lt; have HX60 := hJ (((((HR2.out.set 0 (.slice ap t.scheme.params.length cp)).set 1 (.string t.scheme.result.elem)).set 2 (.string t.scheme.result.shape.row)).set 3 (.slice at_ t.scheme.result.shape.dims.length ct)).set 4 (.slice aq t.scheme.wh.length cq)); have s0 := HX60.out.cell 0 _ rfl; have s1 := HX60.out.cell 1 _ rfl; have s2 := HX60.out.cell 2 _ rfl; have s3 := HX60.out.cell 3 _ rfl; have s4 := HX60.out.cell 4 _ rfl
     go_wp2_with fail
     refine bodyPost_ret (v := .tuple #[.agg #[.slice ap t.scheme.params.length cp, .string t.scheme.result.elem, .string t.scheme.result.shape.row, .slice at_ t.scheme.result.shape.dims.length ct, .slice aq t.scheme.wh.length cq], .bool true]) (by simp [results, results19, go_sem, s0, s1, s2, s3, s4, hlr]) rfl ?_
     refine ⟨⟨_, _, [.slice ap t.scheme.params.length cp, .string t.scheme.result.elem, .string t.scheme.result.shape.row, .slice at_ t.scheme.result.shape.dims.length ct, .slice aq t.scheme.wh.length cq], rfl, HF.out, RSch.frame HRd.out (fun q hq _ => ?_)⟩, ?_⟩
     · exact heap_set0 (by have := hq.2; omega)
     · repeat (first | exact HB2.out | refine Below.setCell ?_ (by show _ ≤ w.heap.size + 1; omega) _)
   · have HF : Hid (kE2 x s kCQ false) := hJ (finds_none hno)
     subst hr; clear hno HAt HN; have v0 := HR2.out.cell 0 _ rfl; have v1 := HR2.out.cell 1 _ rfl; have v2 := HR2.out.cell 2 _ rfl; have v3 := HR2.out.cell 3 _ rfl; have v4 := HR2.out.cell 4 _ rfl; have u0 := HR2.out.fz 0; have u1 := HR2.out.fz 1; have u2 := HR2.out.fz 2; have u3 := HR2.out.fz 3; have u4 := HR2.out.fz 4; have hlr := HR2.out.lt; have HX60 := hJ (((((HR2.out.set 0 (.slice none 0 0)).set 1 (.string ⟨#[]⟩)).set 2 (.string ⟨#[]⟩)).set 3 (.slice none 0 0)).set 4 (.slice none 0 0)); have s0 := HX60.out.cell 0 _ rfl; have s1 := HX60.out.cell 1 _ rfl; have s2 := HX60.out.cell 2 _ rfl; have s3 := HX60.out.cell 3 _ rfl; have s4 := HX60.out.cell 4 _ rfl
     go_wp2_with fail
     refine bodyPost_ret (v := .tuple #[.agg #[.slice none 0 0, .string ⟨#[]⟩, .string ⟨#[]⟩, .slice none 0 0, .slice none 0 0], .bool false]) (by simp [results, results19, go_sem, s0, s1, s2, s3, s4, hlr]) rfl ?_
     refine ⟨⟨_, _, [.slice none 0 0, .string ⟨#[]⟩, .string ⟨#[]⟩, .slice none 0 0, .slice none 0 0], rfl, HF.out, noSch_rd _ _⟩, ?_⟩
     repeat (first | exact HB2.out | refine Below.setCell ?_ (by show _ ≤ w.heap.size + 1; omega) _)
end Go.Proofs.YtjongcdlginjlaaGreatDoor
