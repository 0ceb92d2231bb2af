/- The claim's texts, part 10: contracts of the functions that the statement reaches, and what they say of the data. -/
import Derived.Test.YtjongcdlginjlaaGreatDoorPk9
set_option maxRecDepth 100000
set_option linter.all false
namespace Go.Proofs.YtjongcdlginjlaaGreatDoor
open Go.RowKit
def lineE (x : Ent) : Str := (x.name ++ ⟨#[58, 32]⟩) ++ printS x.scheme
def capI (m : Str) : Str := (⟨#[105, 110, 116, 101, 114, 102, 97, 99, 101, 32]⟩ : Str) ++ m
def textI (i : Ifc) : Str := joinS ((capI i.module_ :: i.entries.map lineE) ++ [⟨#[]⟩]) ⟨#[10]⟩
def printI (i : Ifc) : Str := if validIfc i then textI i else ⟨#[]⟩
def tame (x : Ent) : Prop := szS x.scheme ∧ x.name.size ≤ 100000
theorem lineE_size {x : Ent} (h : tame x) : (lineE x).size ≤ 4000000 := by
  have h1 := printS_size h.1; have h2 := h.2
  unfold lineE
  rw [ByteArray.size_append, ByteArray.size_append]
  show _ + 2 + _ ≤ _
  omega
theorem Own.one {E : TypeId} {S : Blk} {w : World} {g base : Nat} {s : Str} (h : w.heap[g]? = some (.cells #[.string s] E (0, 0))) (hb : base ≤ g) : Own RStr E S w base (.slice (some ⟨g, 0, none⟩) 1 1) [s] :=
  ⟨⟨[[.string s]], rfl, ⟨by simp [RStr], .inr ⟨g, 1, #[.string s], rfl, hb, h, Nat.le_refl _, by unfold maxLen; omega, by simp [RStr], by simp [RStr]⟩⟩, fun i x hx => by
    cases i with
    | zero => simp at hx; subst hx; exact ⟨_, rfl, rfl⟩
    | succ i => simp at hx⟩⟩
theorem signature_line {S : Blk} {x : Ent} {cs : List Value} {w : World} (h : REnt.rd S w cs x) (hz : tame x) (E : Env w) :
    Calls Tryz.prog 89 #[.agg cs.toArray] w fun e w' => e = .returned (.string (lineE x)) ∧ Below w.heap.size w w' := by
  obtain ⟨_, rfl, hr⟩ := h; have hps := printS_size hz.1; have hnz := hz.2; obtain ⟨p, t, q, rfl, ⟨ap, cp, rfl, hp⟩, ⟨at_, ct, rfl, ht⟩, ⟨aq, cq, rfl, hq⟩⟩ := hr
  have HX := Lib.hid (fun (W : World) (hW : Below w.heap.size w W) => types_PrintScheme (S := S) (x := x.scheme) (w := W) (cs := [.slice ap x.scheme.params.length cp, .string x.scheme.result.elem, .string x.scheme.result.shape.row, .slice at_ x.scheme.result.shape.dims.length ct, .slice aq x.scheme.wh.length cq]) ⟨_, _, _, rfl, ⟨ap, cp, rfl, hp.below hW⟩, ⟨at_, ct, rfl, ht.below hW⟩, ⟨aq, cq, rfl, hq.below hW⟩⟩ hz.1 (E.below hW))
  have HT : Hid (lineE x = (x.name ++ ⟨#[58, 32]⟩) ++ printS x.scheme) := Lib.hid rfl
  clear hp ht hq hz E
  have B0 : Hid (Below w.heap.size w (w.alloc (.cells #[.string x.name, .slice ap x.scheme.params.length cp, .string x.scheme.result.elem, .string x.scheme.result.shape.row, .slice at_ x.scheme.result.shape.dims.length ct, .slice aq x.scheme.wh.length cq] 43))) := Lib.hid ((Below.refl _ _).alloc (by simp <;> omega) _)
  have xa0 : (w.alloc (.cells #[.string x.name, .slice ap x.scheme.params.length cp, .string x.scheme.result.elem, .string x.scheme.result.shape.row, .slice at_ x.scheme.result.shape.dims.length ct, .slice aq x.scheme.wh.length cq] 43)).cell? ⟨w.heap.size, 0, none⟩ = some (.string x.name) := by simp [go_sem]
  have xa1 : (w.alloc (.cells #[.string x.name, .slice ap x.scheme.params.length cp, .string x.scheme.result.elem, .string x.scheme.result.shape.row, .slice at_ x.scheme.result.shape.dims.length ct, .slice aq x.scheme.wh.length cq] 43)).cell? ⟨w.heap.size, 1, none⟩ = some (.slice ap x.scheme.params.length cp) := by simp [go_sem]
  have xa2 : (w.alloc (.cells #[.string x.name, .slice ap x.scheme.params.length cp, .string x.scheme.result.elem, .string x.scheme.result.shape.row, .slice at_ x.scheme.result.shape.dims.length ct, .slice aq x.scheme.wh.length cq] 43)).cell? ⟨w.heap.size, 2, none⟩ = some (.string x.scheme.result.elem) := by simp [go_sem]
  have xa3 : (w.alloc (.cells #[.string x.name, .slice ap x.scheme.params.length cp, .string x.scheme.result.elem, .string x.scheme.result.shape.row, .slice at_ x.scheme.result.shape.dims.length ct, .slice aq x.scheme.wh.length cq] 43)).cell? ⟨w.heap.size, 3, none⟩ = some (.string x.scheme.result.shape.row) := by simp [go_sem]
  have xa4 : (w.alloc (.cells #[.string x.name, .slice ap x.scheme.params.length cp, .string x.scheme.result.elem, .string x.scheme.result.shape.row, .slice at_ x.scheme.result.shape.dims.length ct, .slice aq x.scheme.wh.length cq] 43)).cell? ⟨w.heap.size, 4, none⟩ = some (.slice at_ x.scheme.result.shape.dims.length ct) := by simp [go_sem]
  have xa5 : (w.alloc (.cells #[.string x.name, .slice ap x.scheme.params.length cp, .string x.scheme.result.elem, .string x.scheme.result.shape.row, .slice at_ x.scheme.result.shape.dims.length ct, .slice aq x.scheme.wh.length cq] 43)).cell? ⟨w.heap.size, 5, none⟩ = some (.slice aq x.scheme.wh.length cq) := by simp [go_sem]
  have hW0 : (w.alloc (.cells #[.string x.name, .slice ap x.scheme.params.length cp, .string x.scheme.result.elem, .string x.scheme.result.shape.row, .slice at_ x.scheme.result.shape.dims.length ct, .slice aq x.scheme.wh.length cq] 43)).heap.size = w.heap.size + 1 := by simp
  have HC := Lib.hid (HX.out _ B0.out)
  generalize printS x.scheme = ps at *
  generalize (if validSch x.scheme then (0 : Int) else 1) = ev at *
  have hs1 : (x.name ++ (⟨#[58, 32]⟩ : Str)).size ≤ 100002 := by rw [ByteArray.size_append]; show _ + 2 ≤ _; omega
  go_enter Tryz.func89, Tryz.ntmps89
  go_wp2_with fail
  refine (HC.out).mono ?_
  rintro e w1 ⟨rfl, hb⟩
  have g0 := cellB xa0 _ hb
  go_wp2_with fail
  go_ret
  exact ⟨by rw [HT.out]; rfl, B0.out.trans (hb.mono B0.out.size)⟩
theorem signature_lines {S : Blk} {w : World} {base : Nat} {v : Value} {l : List Str} (h : Own RStr 9 S w base v l) (hbase : base ≤ w.heap.size) (hn : l.length ≤ 100) (hz : ∀ s ∈ l, s.size ≤ 10000000) :
    Calls Tryz.prog 90 #[v] w fun e w' => e = .returned (.string (joinS (l ++ [⟨#[]⟩]) ⟨#[10]⟩)) ∧ Below base w w' := by
  have HO := Lib.hid h; have HZ := Lib.hid hz; obtain ⟨a, m, c, rfl⟩ := h.shape; clear h hz
  go_enter Tryz.func90, Tryz.ntmps90
  go_wp2_with (at_builtin; refine app_one elemStr rfl _ _ rfl base _ _ rfl (HO.out.alloc _) _ (⟨#[]⟩ : Str) [.string ⟨#[]⟩] rfl rfl (cellsN 9 (by (simp only [drew_heap, alloc_heap, Array.getElem?_push, Array.size_push]; simp))) (by omega) (by unfold maxLen; omega) (by simp; omega) ?_; intro v9 w9 hown9 hb9 hk9; obtain ⟨a9, m9, c9, rfl⟩ := hown9.shape; obtain ⟨_, _, q9, hsl⟩ := hown9.sl; rw [Value.slice.injEq] at q9; obtain ⟨rfl, q9, rfl⟩ := q9; rw [← q9] at hsl; have HB9 := Lib.hid (((Below.refl _ _).alloc hbase _).trans hb9); have HC := Lib.hid (strings_join hsl ⟨#[10]⟩ (by rw [q9, List.length_append]; show _ + 1 ≤ _; omega) (fun s hs => (List.mem_append.1 hs).elim (HZ.out s) (fun q => by rw [List.mem_singleton] at q; subst q; exact Nat.zero_le _)) (by decide)); clear hsl hown9 hb9 hk9 q9)
  refine HC.out.mono ?_
  rintro e w3 ⟨rfl, hb3⟩
  go_wp2_with fail
  go_ret
  exact ⟨rfl, HB9.out.trans (hb3.mono (Nat.le_trans hbase HB9.out.size))⟩
set_option maxHeartbeats 2000000 in
theorem signature_text {S : Blk} {x : Ifc} {a : Option Addr} {n c : Nat} {w : World} (hs : Sl REnt S w a n c x.entries) (hz : ∀ e ∈ x.entries, tame e) (hmz : x.module_.size ≤ 100000) (hn : n ≤ 60) (E : Env w) :
    Calls Tryz.prog 42 #[.agg #[.string x.module_, .slice a n c]] w fun e w' => e = .returned (.string (textI x)) ∧ Below w.heap.size w w' := by
  have hm := hs.small; have HZ := Lib.hid hz; have HL := Lib.hid hs.len; have HS0 := Lib.hid hs
  have HE := Lib.hid (fun (W : World) (hW : Below w.heap.size w W) => E.below hW)
  have HT : Hid (textI x = joinS ((capI x.module_ :: x.entries.map lineE) ++ [⟨#[]⟩]) ⟨#[10]⟩) := Lib.hid rfl
  have HCp : Hid (capI x.module_ = (⟨#[105, 110, 116, 101, 114, 102, 97, 99, 101, 32]⟩ : Str) ++ x.module_) := Lib.hid rfl
  have hcz : (capI x.module_).size ≤ 100010 := by unfold capI; rw [ByteArray.size_append]; show 10 + _ ≤ _; omega
  have HCz := Lib.hid hcz; clear hs E hz hcz
  have B0 : Hid (Below w.heap.size w (w.alloc (.cells #[.string x.module_, .slice a n c] 29))) := Lib.hid ((Below.refl _ _).alloc (by simp <;> omega) _)
  have xa0 : (w.alloc (.cells #[.string x.module_, .slice a n c] 29)).cell? ⟨w.heap.size, 0, none⟩ = some (.string x.module_) := by simp [go_sem]
  have xa1 : (w.alloc (.cells #[.string x.module_, .slice a n c] 29)).cell? ⟨w.heap.size, 1, none⟩ = some (.slice a n c) := by simp [go_sem]
  have hW0 : (w.alloc (.cells #[.string x.module_, .slice a n c] 29)).heap.size = w.heap.size + 1 := by simp
  have HS := Lib.hid (HS0.out.below B0.out)
  have HEW := Lib.hid (fun (W' : World) (hW : Below (w.alloc (.cells #[.string x.module_, .slice a n c] 29)).heap.size (w.alloc (.cells #[.string x.module_, .slice a n c] 29)) W') => HE.out W' (B0.out.trans (hW.mono B0.out.size)))
  clear HS0 HE
  go_enter Tryz.func42, Tryz.ntmps42
  go_wp2_with fail
  generalize (w.alloc (.cells #[.string x.module_, .slice a n c] 29)) = W at *
  rw [← HCp.out]
  generalize capI x.module_ = cm at *
  have HO1 : Hid (Own RStr 9 (fun _ => False) (W.alloc (.cells #[.string cm] 9)) W.heap.size (.slice (some ⟨w.heap.size + 1, 0, none⟩) 1 1) (cm :: (x.entries.take 0).map lineE)) := Lib.hid (by rw [← hW0]; exact Own.one (by (simp only [drew_heap, alloc_heap, Array.getElem?_push, Array.size_push]; simp)) (Nat.le_refl _))
  go_loopw [3, 13] (fun v i wr => ∃ k : Nat, k ≤ n ∧ i = .int .i64 k ∧ Hid (Own RStr 9 (fun _ => False) wr W.heap.size v (cm :: (x.entries.take k).map lineE)) ∧ Below W.heap.size W wr) (fun _ i _ => n - (intOf i).toNat)
  case atStart => exact ⟨0, Nat.zero_le _, rfl, HO1, (Below.refl _ _).alloc (Nat.le_refl _) _⟩
  case round =>
    obtain ⟨k, hk, rfl, HO, hB⟩ := hrel; have hsz := hB.size
    by_cases hlt : k < n
    · obtain ⟨b, off, rfl, hbW, _⟩ := HS.out.form k hlt
      obtain ⟨_, _, _, hr, ⟨⟨ap, cp, rfl, _⟩, ⟨at_, ct, rfl, _⟩, ⟨aq, cq, rfl, _⟩⟩, c0, c1, c2, c3, c4, c5⟩ := (HS.out.below hB).ent k hlt
      have hkl : k < x.entries.length := by rw [HL.out]; exact hlt
      have HNx := Lib.hid (map_take_next lineE hkl); have HZk := Lib.hid (HZ.out _ (getD_mem hkl)); have HR := Lib.hid hr
      have HLen : Hid ((cm :: (x.entries.take k).map lineE).length ≤ 61) := Lib.hid (by rw [List.length_cons, List.length_map, List.length_take]; omega)
      clear hr hkl
      generalize x.entries.getD k default = y at *
      have HA : Hid (Below wr.heap.size wr (wr.alloc (.cells #[.string y.name, .slice ap y.scheme.params.length cp, .string y.scheme.result.elem, .string y.scheme.result.shape.row, .slice at_ y.scheme.result.shape.dims.length ct, .slice aq y.scheme.wh.length cq] 43))) := Lib.hid ((Below.refl _ _).alloc (Nat.le_refl _) _)
      have HC := Lib.hid (signature_line (REnt.below HR.out HA.out) HZk.out (HEW.out _ (hB.trans (HA.out.mono hB.size))))
      generalize lineE y = o at *
      obtain ⟨va, vm, vc, rfl⟩ := HO.out.shape
      go_wp2_with fail
      refine HC.out.mono ?_
      rintro e w4 ⟨rfl, hb4⟩
      have HB4 := Lib.hid (HA.out.trans (hb4.mono HA.out.size)); have hz4 := HB4.out.size
      go_wp2_with (at_builtin; refine app_one elemStr rfl _ _ rfl W.heap.size _ _ rfl ((HO.out.below HB4.out).alloc _) _ o [.string o] rfl rfl (cellsN 9 (by (simp only [drew_heap, alloc_heap, Array.getElem?_push, Array.size_push]; simp))) (by have := HLen.out; omega) (by have := HLen.out; unfold maxLen; omega) (by simp; omega) ?_; intro v9 w9 hown9 hb9 hk9; obtain ⟨a9, m9, c9, rfl⟩ := hown9.shape)
      go_roundw
      case rel => exact ⟨k + 1, by omega, by go_num, Lib.hid (by rw [HNx.out, ← List.cons_append]; exact hown9), (hB.trans ((HB4.out.alloc HB4.out.size _).mono hB.size)).trans hb9⟩
      case measure => simp [intOf]; omega
    · have HAll : Hid (cm :: (x.entries.take k).map lineE = cm :: x.entries.map lineE) := Lib.hid (by rw [List.take_of_length_le (by rw [HL.out]; omega)])
      rw [HAll.out] at HO
      have HC := Lib.hid (signature_lines HO.out hB.size (by rw [List.length_cons, List.length_map, HL.out]; omega) (fun s hs => by
        rcases List.mem_cons.1 hs with q | q
        · subst q; exact Nat.le_trans HCz.out (by decide)
        · obtain ⟨y, hy, rfl⟩ := List.mem_map.1 q
          exact Nat.le_trans (lineE_size (HZ.out y hy)) (by decide)))
      obtain ⟨va, vm, vc, rfl⟩ := HO.out.shape
      go_wp2_with fail
      refine HC.out.mono ?_
      rintro e w4 ⟨rfl, hb4⟩
      go_wp2_with fail
      go_ret
      exact ⟨by rw [HT.out]; rfl, B0.out.trans ((hB.trans hb4).mono B0.out.size)⟩
theorem signature_Print {S : Blk} {x : Ifc} {a : Option Addr} {c : Nat} {w : World} (hs : Sl REnt S w a x.entries.length c x.entries) (hz : ∀ e ∈ x.entries, tame e) (hmz : x.module_.size ≤ 100000) (E : Env w) :
    Calls Tryz.prog 21 #[.agg #[.string x.module_, .slice a x.entries.length c]] w fun e w' => e = .returned (.tuple #[.string (printI x), .int .i64 (if validIfc x then 0 else 1)]) ∧ Below w.heap.size w w' := by
  have HV := Lib.hid (fun (W : World) (hW : Below w.heap.size w W) => signature_Valid (hs.below hW) (fun e he => ⟨(hz e he).1, Nat.le_trans (hz e he).2 (by decide)⟩) (by omega) (E.below hW))
  have HX := Lib.hid (fun (hv : validIfc x = true) (W : World) (hW : Below w.heap.size w W) => signature_text (hs.below hW) hz hmz (by
    unfold validIfc at hv
    rw [Bool.and_eq_true, Bool.and_eq_true, decide_eq_true_eq] at hv
    exact hv.2.2) (E.below hW))
  clear hs E hz
  generalize x.entries.length = n at *
  have B0 : Hid (Below w.heap.size w (w.alloc (.cells #[.string x.module_, .slice a n c] 29))) := Lib.hid ((Below.refl _ _).alloc (by simp <;> omega) _)
  have xa0 : (w.alloc (.cells #[.string x.module_, .slice a n c] 29)).cell? ⟨w.heap.size, 0, none⟩ = some (.string x.module_) := by simp [go_sem]
  have xa1 : (w.alloc (.cells #[.string x.module_, .slice a n c] 29)).cell? ⟨w.heap.size, 1, none⟩ = some (.slice a n c) := by simp [go_sem]
  have hW0 : (w.alloc (.cells #[.string x.module_, .slice a n c] 29)).heap.size = w.heap.size + 1 := by simp
  have HC := Lib.hid (HV.out _ B0.out)
  cases hv : validIfc x with
  | false =>
    have HF : Hid (printI x = ⟨#[]⟩) := Lib.hid (by unfold printI; rw [hv]; rfl)
    rw [hv] at HC; clear HV HX
    go_enter Tryz.func21, Tryz.ntmps21
    go_wp2_with fail
    refine (HC.out).mono ?_
    rintro e w1 ⟨rfl, hb⟩
    go_wp2_with fail
    go_returns
    exact ⟨by rw [HF.out]; rfl, B0.out.trans (hb.mono B0.out.size)⟩
  | true =>
    have HF : Hid (printI x = textI x) := Lib.hid (by unfold printI; rw [hv]; rfl)
    have HX2 := Lib.hid (HX.out hv); rw [hv] at HC; clear HV HX
    go_enter Tryz.func21, Tryz.ntmps21
    go_wp2_with fail
    refine (HC.out).mono ?_
    rintro e w1 ⟨rfl, hb⟩
    have HW1 := Lib.hid (B0.out.trans (hb.mono B0.out.size)); have g0 := cellB xa0 _ hb; have g1 := cellB xa1 _ hb
    have hlw : w.heap.size < w1.heap.size := cell_lt g1
    have HC2 := Lib.hid (HX2.out _ HW1.out)
    go_wp2_with fail
    refine (HC2.out).mono ?_
    rintro e w2 ⟨rfl, hb2⟩
    go_wp2_with fail
    go_returns
    exact ⟨by rw [HF.out]; rfl, HW1.out.trans (hb2.mono HW1.out.size)⟩
end Go.Proofs.YtjongcdlginjlaaGreatDoor
namespace Go.Proofs.YtjongcdlginjlaaGreatDoor
open Go.RowKit
def kS : Str := ⟨#[107]⟩
def exS : Sch := ⟨[⟨⟨#[65]⟩, ⟨⟨#[]⟩, [varL kS]⟩⟩], ⟨⟨#[65]⟩, ⟨⟨#[]⟩, []⟩⟩, []⟩
def exE : Ent := ⟨⟨#[102]⟩, exS⟩
def n1S : Str := ⟨#[110, 49]⟩
def a1S : Str := ⟨#[65, 49]⟩
def exC : Sch := ⟨[⟨a1S, ⟨⟨#[]⟩, [varL n1S]⟩⟩], ⟨a1S, ⟨⟨#[]⟩, []⟩⟩, []⟩
def exI : Ifc := ⟨⟨#[109]⟩, [⟨⟨#[102]⟩, exC⟩]⟩
theorem ex_name1 : isNameB ⟨#[109]⟩ = true := by kernel_rfl
theorem ex_name2 : isNameB ⟨#[102]⟩ = true := by kernel_rfl
theorem ex_valid : validSch exS = true := by kernel_rfl
theorem ex_ok : canOk exS = true := by kernel_rfl
theorem ex_can : can exS = exC := by kernel_rfl
theorem ex_print : printI exI = ⟨#[105, 110, 116, 101, 114, 102, 97, 99, 101, 32, 109, 10, 102, 58, 32, 40, 91, 110, 49, 93, 65, 49, 41, 32, 45, 62, 32, 65, 49, 10]⟩ := by kernel_rfl
theorem ex_validI : validIfc exI = true := by kernel_rfl
end Go.Proofs.YtjongcdlginjlaaGreatDoor
namespace Go.Proofs.YtjongcdlginjlaaGreatDoor
open Go.RowKit
theorem says_ex {A : Ifc} {ev : Int} (h : Says ⟨#[109]⟩ [exE] A ev) : ev = 0 ∧ A = exI := by
  have hok : mkOk ⟨#[109]⟩ [exE] = true := by
    unfold mkOk goodE
    rw [ex_name1]
    show (([exE] : List Ent).all fun x => canOk x.scheme && isNameB x.name) = true
    show ((canOk exS && isNameB ⟨#[102]⟩) && true) = true
    rw [ex_ok, ex_name2]; rfl
  rcases h with ⟨h, _⟩ | ⟨_, h, _⟩ | ⟨_, _, he, m, hp, _, rfl⟩
  · rw [hok] at h; cases h
  · exact absurd (List.pairwise_singleton _ _) h
  · refine ⟨he, ?_⟩
    rw [List.perm_singleton.1 hp]
    show (⟨⟨#[109]⟩, [⟨⟨#[102]⟩, can exS⟩]⟩ : Ifc) = exI
    rw [ex_can]; rfl
set_option maxHeartbeats 2000000 in
theorem law57_awake (w : World) (E : Env w) : Calls Tryz.prog 5 #[] w fun e w' => e = .returned (.bool true) ∧ Below w.heap.size w w' := by
  obtain ⟨W, hW⟩ : ∃ W, (((((w.alloc (.cells #[.string ⟨#[107]⟩, .int .i64 1] 62)).alloc (.cells #[.int .i64 0, .slice (some ⟨w.heap.size, 0, none⟩) 1 1] 65)).alloc (.cells #[.int .i64 0, .slice (some ⟨w.heap.size, 0, none⟩) 1 1] 65)).alloc (.cells #[.string ⟨#[65]⟩, .string ⟨#[]⟩, .slice (some ⟨w.heap.size + 2, 0, none⟩) 1 1] 39)).alloc (.cells #[.slice (some ⟨w.heap.size + 3, 0, none⟩) 1 1, .string ⟨#[65]⟩, .string ⟨#[]⟩, .slice none 0 0, .slice none 0 0] 41)).alloc (.cells #[.string ⟨#[102]⟩, .slice (some ⟨w.heap.size + 3, 0, none⟩) 1 1, .string ⟨#[65]⟩, .string ⟨#[]⟩, .slice none 0 0, .slice none 0 0] 43) = W := ⟨_, rfl⟩
  have b0 : W.heap[w.heap.size]? = some (.cells #[.string ⟨#[107]⟩, .int .i64 1] 62 (0, 0)) := by rw [← hW]; (simp only [drew_heap, alloc_heap, Array.getElem?_push, Array.size_push]; simp); repeat rw [if_neg (by omega)]
  have b2 : W.heap[w.heap.size + 1 + 1]? = some (.cells #[.int .i64 0, .slice (some ⟨w.heap.size, 0, none⟩) 1 1] 65 (0, 0)) := by rw [← hW]; (simp only [drew_heap, alloc_heap, Array.getElem?_push, Array.size_push]; simp)
  have b3 : W.heap[w.heap.size + 1 + 1 + 1]? = some (.cells #[.string ⟨#[65]⟩, .string ⟨#[]⟩, .slice (some ⟨w.heap.size + 1 + 1, 0, none⟩) 1 1] 39 (0, 0)) := by rw [← hW]; (simp only [drew_heap, alloc_heap, Array.getElem?_push, Array.size_push]; simp)
  have b5 : W.heap[w.heap.size + 1 + 1 + 1 + 1 + 1]? = some (.cells #[.string ⟨#[102]⟩, .slice (some ⟨w.heap.size + 1 + 1 + 1, 0, none⟩) 1 1, .string ⟨#[65]⟩, .string ⟨#[]⟩, .slice none 0 0, .slice none 0 0] 43 (0, 0)) := by rw [← hW]; (simp only [drew_heap, alloc_heap, Array.getElem?_push, Array.size_push]; simp)
  have hsz : W.heap.size = w.heap.size + 6 := by rw [← hW]; simp
  have hBW : Below w.heap.size w W := by rw [← hW]; exact ((((((Below.refl _ _).alloc (by simp <;> omega) _).alloc (by simp <;> omega) _).alloc (by simp <;> omega) _).alloc (by simp <;> omega) _).alloc (by simp <;> omega) _).alloc (by simp <;> omega) _
  have s0 : Sl RCoef All W (some ⟨w.heap.size, 0, none⟩) 1 1 [⟨kS, 1⟩] := Sl.single (cs := [.string kS, .int .i64 1]) b0 rfl trivial
  have s2 : Sl RLin All W (some ⟨w.heap.size + 1 + 1, 0, none⟩) 1 1 [varL kS] := Sl.single (cs := [.int .i64 0, .slice (some ⟨w.heap.size, 0, none⟩) 1 1]) b2 ⟨_, rfl, _, _, rfl, s0⟩ trivial
  have s3 : Sl RTyp All W (some ⟨w.heap.size + 1 + 1 + 1, 0, none⟩) 1 1 [⟨⟨#[65]⟩, ⟨⟨#[]⟩, [varL kS]⟩⟩] := Sl.single (cs := [.string ⟨#[65]⟩, .string ⟨#[]⟩, .slice (some ⟨w.heap.size + 1 + 1, 0, none⟩) 1 1]) b3 ⟨_, rfl, _, _, rfl, s2⟩ trivial
  have s5 : Sl REnt All W (some ⟨w.heap.size + 1 + 1 + 1 + 1 + 1, 0, none⟩) 1 1 [exE] := Sl.single (cs := [.string ⟨#[102]⟩, .slice (some ⟨w.heap.size + 1 + 1 + 1, 0, none⟩) 1 1, .string ⟨#[65]⟩, .string ⟨#[]⟩, .slice none 0 0, .slice none 0 0]) b5 ⟨_, rfl, _, _, _, rfl, ⟨_, _, rfl, s3⟩, ⟨none, 0, rfl, Sl.empty _ _ _⟩, ⟨none, 0, rfl, Sl.empty _ _ _⟩⟩ trivial
  have hfit : Fit W (some ⟨w.heap.size + 1 + 1 + 1 + 1 + 1, 0, none⟩) := fun ad e => by cases e; exact ⟨_, _, rfl, by omega⟩
  have hfine : ∀ x ∈ [exE], fine x := fun x hx => by
    rw [List.mem_singleton] at hx; subst hx
    exact ⟨sch_sz ex_valid, by decide, fun _ => by decide⟩
  have HM := Lib.hid (signature_Make (mod := ⟨#[109]⟩) s5 hfit (by decide) hfine (by decide) (E.below hBW))
  have HB := Lib.hid hBW
  have HE := Lib.hid (fun (W' : World) (hW' : Below w.heap.size w W') => E.below hW')
  clear b0 b2 b3 b5 hsz hBW s0 s2 s3 s5 hfit hfine E
  have htame : ∀ x ∈ exI.entries, tame x := fun x hx => by
    have hx : x ∈ [(⟨⟨#[102]⟩, exC⟩ : Ent)] := hx
    rw [List.mem_singleton] at hx; subst hx
    exact ⟨sch_sz (by kernel_rfl), by decide⟩
  have HT := Lib.hid htame; clear htame
  go_enter Tryz.func5, Tryz.ntmps5
  go_wp2_with fail
  refine HM.out.mono ?_
  rintro e w1 ⟨⟨A, ev, a', c', rfl, hsay, hs1⟩, hb1⟩
  obtain ⟨rfl, rfl⟩ := says_ex hsay; have HW1 := Lib.hid (HB.out.trans (hb1.mono HB.out.size)); obtain ⟨W2, hW2⟩ : ∃ W2, w1.alloc (.cells #[.string exI.module_, .slice a' exI.entries.length c'] 29) = W2 := ⟨_, rfl⟩
  have HB2 : Hid (Below w1.heap.size w1 W2) := Lib.hid (by rw [← hW2]; exact (Below.refl _ _).alloc (Nat.le_refl _) _)
  have HX2 : Hid (Bx W2 w1.heap.size 29 [.string exI.module_, .slice a' exI.entries.length c']) := Lib.hid (by rw [← hW2]; exact Bx.fresh _ _ _)
  have HS2 := Lib.hid (hs1.below HB2.out); have HWW2 := Lib.hid (HW1.out.trans (HB2.out.mono HW1.out.size))
  have HP := Lib.hid (signature_Print HS2.out HT.out (by decide) (HE.out _ HWW2.out))
  rw [ex_validI, if_pos rfl, ex_print] at HP; have x0 := HX2.out.cell 0 _ rfl; have x1 := HX2.out.cell 1 _ rfl; clear hW hsay hs1 hb1 HM
  go_wp2_with fail
  refine HP.out.mono ?_
  rintro e w3 ⟨rfl, hb3⟩
  clear hW2 x0 x1; have HW3 := Lib.hid (HWW2.out.trans (hb3.mono HWW2.out.size)); have HX3 := Lib.hid (HX2.out.below hb3 HX2.out.lt); have HS3 := Lib.hid (HS2.out.below hb3); have y0 := HX3.out.cell 0 _ rfl; have y1 := HX3.out.cell 1 _ rfl
  have HV := Lib.hid (signature_Valid HS3.out (fun e he => ⟨(HT.out e he).1, Nat.le_trans (HT.out e he).2 (by decide)⟩) (by decide) (HE.out _ HW3.out))
  rw [ex_validI] at HV
  go_wp2_with fail
  refine HV.out.mono ?_
  rintro e w4 ⟨rfl, hb4⟩
  clear y0 y1; have HW4 := Lib.hid (HW3.out.trans (hb4.mono HW3.out.size)); have HX4 := Lib.hid (HX3.out.below hb4 HX3.out.lt); have HS4 := Lib.hid (HS3.out.below hb4); have z0 := HX4.out.cell 0 _ rfl; have z1 := HX4.out.cell 1 _ rfl; have HQ := Lib.hid (signature_Equal HS4.out HS4.out); rw [(eqIfc_iff exI exI).2 rfl] at HQ
  go_wp2_with fail
  refine HQ.out.mono ?_
  rintro e w5 ⟨rfl, hb5⟩
  go_wp2_with fail
  go_ret
  exact ⟨rfl, HW4.out.trans (hb5.mono HW4.out.size)⟩
end Go.Proofs.YtjongcdlginjlaaGreatDoor
namespace Go.Proofs.YtjongcdlginjlaaGreatDoor
open Go.RowKit
theorem elemEnt2 : ElemOf Tryz.prog 22 44 REnt.size 120 := ⟨by kernel_rfl, by kernel_rfl⟩
set_option maxHeartbeats 4000000 in
theorem oursIfc {S : Blk} {x : Ifc} {a : Option Addr} {n c : Nat} {w : World} (hs : Sl REnt S w a n c x.entries) (hn : n ≤ 1000000) :
    Calls Tryz.prog 8 #[.agg #[.string x.module_, .slice a n c]] w fun e w' => (∃ v, e = .returned (.agg #[.string x.module_, v]) ∧ Own REnt 43 (fun k => S k ∧ k < w.heap.size) w' (w.heap.size + 3) v x.entries) ∧ Below w.heap.size w w' := by
  obtain ⟨W, hW⟩ : ∃ W, ((w.alloc (.cells #[.string x.module_, .slice a n c] 24)).alloc (.cells #[.string ⟨#[]⟩, .slice none 0 0] 29)).alloc (.cells #[.string x.module_, .slice none 0 0] 29) = W := ⟨_, rfl⟩
  have hB0 : Below w.heap.size w W := by rw [← hW]; exact (((Below.refl _ _).alloc (by simp <;> omega) _).alloc (by simp <;> omega) _).alloc (by simp <;> omega) _
  have hsz : W.heap.size = w.heap.size + 3 := by rw [← hW]; simp
  have hX0 : Bx W w.heap.size 24 [.string x.module_, .slice a n c] := by rw [← hW]; exact ((Bx.fresh w 24 [.string x.module_, .slice a n c]).alloc _).alloc _
  have hX1 : Bx W (w.heap.size + 1) 29 [.string ⟨#[]⟩, .slice none 0 0] := by
    rw [← hW]; have h := (Bx.fresh (w.alloc (.cells #[.string x.module_, .slice a n c] 24)) 29 [.string ⟨#[]⟩, .slice none 0 0]).alloc (.cells #[.string x.module_, .slice none 0 0] 29)
    simpa using h
  have hX2 : Bx W (w.heap.size + 1 + 1) 29 [.string x.module_, .slice none 0 0] := by
    rw [← hW]; have h := Bx.fresh ((w.alloc (.cells #[.string x.module_, .slice a n c] 24)).alloc (.cells #[.string ⟨#[]⟩, .slice none 0 0] 29)) 29 [.string x.module_, .slice none 0 0]
    simpa using h
  have hlen := hs.len
  have hs0 : Sl REnt (fun k => S k ∧ k < w.heap.size) W a n c x.entries := (hs.mono (fun k hk hlt => ⟨hk, hlt⟩)).below hB0
  have HS := Lib.hid hs0; have HL := Lib.hid hlen; have HB0 := Lib.hid hB0; have HX0 := Lib.hid hX0; have HX1 := Lib.hid hX1; have HX2 := Lib.hid hX2; have HZ := Lib.hid hsz; have q0 := True.intro; clear hs hs0 hlen hB0 hX0 hX1 hX2 hsz; have HWe := Lib.hid hW; clear hW
  go_enter Tryz.func8, Tryz.ntmps8
  go_wp2_with fail
  rw [HWe.out]
  go_loopw [4] (fun i wr => ∃ (k : Nat) (v : Value), k ≤ n ∧ i = .int .i64 k ∧ Hid (Own REnt 43 (fun k => S k ∧ k < w.heap.size) wr (w.heap.size + 3) v (x.entries.take k)) ∧ Hid (Bx wr (w.heap.size + 1 + 1) 29 [.string x.module_, v]) ∧ Below (w.heap.size + 2) W wr) (fun i _ => n - (intOf i).toNat)
  case atStart => exact ⟨0, _, Nat.zero_le _, rfl, Own.nil _ _ _ _ _, HX2, Below.refl _ _⟩
  case round =>
    obtain ⟨k, v, hk, rfl, HO, HX, hB⟩ := hrel
    have hsz : w.heap.size + 3 ≤ wr.heap.size := by have := hB.size; have := HZ.out; omega
    have HXr := Lib.hid (HX0.out.below hB (by omega))
    have y0 := HXr.out.cell 0 _ rfl; have y1 := HXr.out.cell 1 _ rfl; have z0 := HX.out.cell 0 _ rfl; have z1 := HX.out.cell 1 _ rfl
    have hl2 : w.heap.size + 1 + 1 < wr.heap.size := by omega
    have HSr : Hid (Sl REnt (fun k => S k ∧ k < w.heap.size) wr a n c x.entries) := Lib.hid (HS.out.frame (fun q hq _ => hB.block q (by have := hq.2; omega)))
    by_cases hlt : k < n
    · obtain ⟨b, off, rfl, hbW, hSb⟩ := HSr.out.form k hlt
      obtain ⟨_, _, _, hr, ⟨⟨ap, cp, rfl, _⟩, ⟨at_, ct, rfl, _⟩, ⟨aq, cq, rfl, _⟩⟩, c0, c1, c2, c3, c4, c5⟩ := HSr.out.ent k hlt
      have hkl : k < x.entries.length := by rw [HL.out]; exact hlt
      have HT : Hid (x.entries.take (k + 1) = x.entries.take k ++ [x.entries.getD k default]) := Lib.hid (take_one hkl)
      have hlen : (x.entries.take k).length = k := by rw [List.length_take]; omega
      have HLk := Lib.hid hlen; have HR := Lib.hid hr; obtain ⟨va, vm, vc, rfl⟩ := HO.out.shape
      have hob : ∀ q, (Value.slice va vm vc).ownBlock = some q → w.heap.size + 3 ≤ q := fun q e => HO.out.base_le q e
      clear hkl hr hlen
      generalize x.entries.getD k default = y at *
      go_wp2_with fail
      go_region_law (first
        | (refine step_one elemEnt rfl (.tmp 16) (.tmp 22) rfl (w.heap.size + 3) _ (x.entries.take k) rfl (HO.out.below (by go_grown)) wr.heap.size y [.string y.name, .slice ap y.scheme.params.length cp, .string y.scheme.result.elem, .string y.scheme.result.shape.row, .slice at_ y.scheme.result.shape.dims.length ct, .slice aq y.scheme.wh.length cq] rfl ?ry ?rc ?rl ?rm ?rb ?_
           case ry => first | exact REnt.below (REnt.mono HR.out (fun q hq _ => ⟨hq, fun e => by have h1 := hob q e; have h2 := hq.2; omega⟩)) (by go_grown)
           case rc => first | exact cellsN 43 (by (simp only [drew_heap, alloc_heap, Array.getElem?_push, Array.size_push]; simp))
           case rl => first | (rw [HLk.out]; omega)
           case rm => first | (rw [HLk.out]; unfold maxLen; omega)
           case rb => first | (simp; omega)
           intro v5 w5 hown5 hb5 hk5
           have hB5 : Below (w.heap.size + 3) wr w5 := Below.trans (Below.mono (B := wr.heap.size) (by go_grown) hsz) hb5
           obtain ⟨a5, m5, c5', rfl⟩ := hown5.shape
           have HX5 := HX.out.below hB5 (by omega)
           have u1 := HX5.cell 1 _ rfl
           have f1 := HX5.fz 1))
      all_goals go_wp2_with fail
      all_goals go_roundw
      all_goals first
        | exact ⟨k + 1, _, by omega, by go_num, Lib.hid (by rw [HT.out]; exact hown5.set _ (fun q hq => by have := hq.2; show q ≠ w.heap.size + 1 + 1; omega) (by show w.heap.size + 1 + 1 < w.heap.size + 3; omega)), Lib.hid (HX5.set 1 _), (hB.trans (hB5.mono (by omega))).setCell (by show w.heap.size + 2 ≤ w.heap.size + 1 + 1; omega) _⟩
        | (simp [intOf]; omega)
    · have HAll : Hid (x.entries.take k = x.entries) := Lib.hid (List.take_of_length_le (by rw [HL.out]; omega))
      rw [HAll.out] at HO; obtain ⟨va, vm, vc, rfl⟩ := HO.out.shape
      have HR1 := Lib.hid (HX1.out.below hB (by omega))
      have t0 := HR1.out.cell 0 _ rfl; have t1 := HR1.out.cell 1 _ rfl; have f0 := HR1.out.fz 0; have f1 := HR1.out.fz 1; have hl1 := HR1.out.lt; have HZz := Lib.hid ((HR1.out.set 0 (.string x.module_)).set 1 (.slice va vm vc)); have s0 := HZz.out.cell 0 _ rfl; have s1 := HZz.out.cell 1 _ rfl
      go_wp2_with fail
      refine bodyPost_ret (v := .agg #[.string x.module_, .slice va vm vc]) (by simp [results, Tryz.results8, go_sem, s0, s1, hl1]) rfl ?_
      refine ⟨⟨_, rfl, (HO.out.set _ (fun q hq => ?_) ?_).set _ (fun q hq => ?_) ?_⟩, ((HB0.out.trans (hB.mono (by omega))).setCell ?_ _).setCell ?_ _⟩
      · have := hq.2; show q ≠ w.heap.size + 1; omega
      · show w.heap.size + 1 < w.heap.size + 3; omega
      · have := hq.2; show q ≠ w.heap.size + 1; omega
      · show w.heap.size + 1 < w.heap.size + 3; omega
      · show w.heap.size ≤ w.heap.size + 1; omega
      · show w.heap.size ≤ w.heap.size + 1; omega
set_option maxHeartbeats 4000000 in
theorem theirsIfc {S : Blk} {x : Ifc} {a : Option Addr} {n c : Nat} {w : World} (hs : Sl REnt S w a n c x.entries) (hn : n ≤ 1000000) :
    Calls Tryz.prog 12 #[.agg #[.string x.module_, .slice a n c]] w fun e w' => (∃ v, e = .returned (.agg #[.string x.module_, v]) ∧ Own REnt 44 (fun k => S k ∧ k < w.heap.size) w' (w.heap.size + 3) v x.entries) ∧ Below w.heap.size w w' := by
  obtain ⟨W, hW⟩ : ∃ W, ((w.alloc (.cells #[.string x.module_, .slice a n c] 29)).alloc (.cells #[.string ⟨#[]⟩, .slice none 0 0] 24)).alloc (.cells #[.string x.module_, .slice none 0 0] 24) = W := ⟨_, rfl⟩
  have hB0 : Below w.heap.size w W := by rw [← hW]; exact (((Below.refl _ _).alloc (by simp <;> omega) _).alloc (by simp <;> omega) _).alloc (by simp <;> omega) _
  have hsz : W.heap.size = w.heap.size + 3 := by rw [← hW]; simp
  have hX0 : Bx W w.heap.size 29 [.string x.module_, .slice a n c] := by rw [← hW]; exact ((Bx.fresh w 29 [.string x.module_, .slice a n c]).alloc _).alloc _
  have hX1 : Bx W (w.heap.size + 1) 24 [.string ⟨#[]⟩, .slice none 0 0] := by
    rw [← hW]; have h := (Bx.fresh (w.alloc (.cells #[.string x.module_, .slice a n c] 29)) 24 [.string ⟨#[]⟩, .slice none 0 0]).alloc (.cells #[.string x.module_, .slice none 0 0] 24)
    simpa using h
  have hX2 : Bx W (w.heap.size + 1 + 1) 24 [.string x.module_, .slice none 0 0] := by
    rw [← hW]; have h := Bx.fresh ((w.alloc (.cells #[.string x.module_, .slice a n c] 29)).alloc (.cells #[.string ⟨#[]⟩, .slice none 0 0] 24)) 24 [.string x.module_, .slice none 0 0]
    simpa using h
  have hlen := hs.len
  have hs0 : Sl REnt (fun k => S k ∧ k < w.heap.size) W a n c x.entries := (hs.mono (fun k hk hlt => ⟨hk, hlt⟩)).below hB0
  have HS := Lib.hid hs0; have HL := Lib.hid hlen; have HB0 := Lib.hid hB0; have HX0 := Lib.hid hX0; have HX1 := Lib.hid hX1; have HX2 := Lib.hid hX2; have HZ := Lib.hid hsz; have q0 := True.intro; clear hs hs0 hlen hB0 hX0 hX1 hX2 hsz; have HWe := Lib.hid hW; clear hW
  go_enter Tryz.func12, Tryz.ntmps12
  go_wp2_with fail
  rw [HWe.out]
  go_loopw [4] (fun i wr => ∃ (k : Nat) (v : Value), k ≤ n ∧ i = .int .i64 k ∧ Hid (Own REnt 44 (fun k => S k ∧ k < w.heap.size) wr (w.heap.size + 3) v (x.entries.take k)) ∧ Hid (Bx wr (w.heap.size + 1 + 1) 24 [.string x.module_, v]) ∧ Below (w.heap.size + 2) W wr) (fun i _ => n - (intOf i).toNat)
  case atStart => exact ⟨0, _, Nat.zero_le _, rfl, Own.nil _ _ _ _ _, HX2, Below.refl _ _⟩
  case round =>
    obtain ⟨k, v, hk, rfl, HO, HX, hB⟩ := hrel
    have hsz : w.heap.size + 3 ≤ wr.heap.size := by have := hB.size; have := HZ.out; omega
    have HXr := Lib.hid (HX0.out.below hB (by omega))
    have y0 := HXr.out.cell 0 _ rfl; have y1 := HXr.out.cell 1 _ rfl; have z0 := HX.out.cell 0 _ rfl; have z1 := HX.out.cell 1 _ rfl
    have hl2 : w.heap.size + 1 + 1 < wr.heap.size := by omega
    have HSr : Hid (Sl REnt (fun k => S k ∧ k < w.heap.size) wr a n c x.entries) := Lib.hid (HS.out.frame (fun q hq _ => hB.block q (by have := hq.2; omega)))
    by_cases hlt : k < n
    · obtain ⟨b, off, rfl, hbW, hSb⟩ := HSr.out.form k hlt
      obtain ⟨_, _, _, hr, ⟨⟨ap, cp, rfl, _⟩, ⟨at_, ct, rfl, _⟩, ⟨aq, cq, rfl, _⟩⟩, c0, c1, c2, c3, c4, c5⟩ := HSr.out.ent k hlt
      have hkl : k < x.entries.length := by rw [HL.out]; exact hlt
      have HT : Hid (x.entries.take (k + 1) = x.entries.take k ++ [x.entries.getD k default]) := Lib.hid (take_one hkl)
      have hlen : (x.entries.take k).length = k := by rw [List.length_take]; omega
      have HLk := Lib.hid hlen; have HR := Lib.hid hr; obtain ⟨va, vm, vc, rfl⟩ := HO.out.shape
      have hob : ∀ q, (Value.slice va vm vc).ownBlock = some q → w.heap.size + 3 ≤ q := fun q e => HO.out.base_le q e
      clear hkl hr hlen
      generalize x.entries.getD k default = y at *
      go_wp2_with fail
      go_region_law (first
        | (refine step_one elemEnt2 rfl (.tmp 16) (.tmp 22) rfl (w.heap.size + 3) _ (x.entries.take k) rfl (HO.out.below (by go_grown)) wr.heap.size y [.string y.name, .slice ap y.scheme.params.length cp, .string y.scheme.result.elem, .string y.scheme.result.shape.row, .slice at_ y.scheme.result.shape.dims.length ct, .slice aq y.scheme.wh.length cq] rfl ?ry ?rc ?rl ?rm ?rb ?_
           case ry => first | exact REnt.below (REnt.mono HR.out (fun q hq _ => ⟨hq, fun e => by have h1 := hob q e; have h2 := hq.2; omega⟩)) (by go_grown)
           case rc => first | exact cellsN 44 (by (simp only [drew_heap, alloc_heap, Array.getElem?_push, Array.size_push]; simp))
           case rl => first | (rw [HLk.out]; omega)
           case rm => first | (rw [HLk.out]; unfold maxLen; omega)
           case rb => first | (simp; omega)
           intro v5 w5 hown5 hb5 hk5
           have hB5 : Below (w.heap.size + 3) wr w5 := Below.trans (Below.mono (B := wr.heap.size) (by go_grown) hsz) hb5
           obtain ⟨a5, m5, c5', rfl⟩ := hown5.shape
           have HX5 := HX.out.below hB5 (by omega)
           have u1 := HX5.cell 1 _ rfl
           have f1 := HX5.fz 1))
      all_goals go_wp2_with fail
      all_goals go_roundw
      all_goals first
        | exact ⟨k + 1, _, by omega, by go_num, Lib.hid (by rw [HT.out]; exact hown5.set _ (fun q hq => by have := hq.2; show q ≠ w.heap.size + 1 + 1; omega) (by show w.heap.size + 1 + 1 < w.heap.size + 3; omega)), Lib.hid (HX5.set 1 _), (hB.trans (hB5.mono (by omega))).setCell (by show w.heap.size + 2 ≤ w.heap.size + 1 + 1; omega) _⟩
        | (simp [intOf]; omega)
    · have HAll : Hid (x.entries.take k = x.entries) := Lib.hid (List.take_of_length_le (by rw [HL.out]; omega))
      rw [HAll.out] at HO; obtain ⟨va, vm, vc, rfl⟩ := HO.out.shape
      have HR1 := Lib.hid (HX1.out.below hB (by omega))
      have t0 := HR1.out.cell 0 _ rfl; have t1 := HR1.out.cell 1 _ rfl; have f0 := HR1.out.fz 0; have f1 := HR1.out.fz 1; have hl1 := HR1.out.lt; have HZz := Lib.hid ((HR1.out.set 0 (.string x.module_)).set 1 (.slice va vm vc)); have s0 := HZz.out.cell 0 _ rfl; have s1 := HZz.out.cell 1 _ rfl
      go_wp2_with fail
      refine bodyPost_ret (v := .agg #[.string x.module_, .slice va vm vc]) (by simp [results, Tryz.results12, go_sem, s0, s1, hl1]) rfl ?_
      refine ⟨⟨_, rfl, (HO.out.set _ (fun q hq => ?_) ?_).set _ (fun q hq => ?_) ?_⟩, ((HB0.out.trans (hB.mono (by omega))).setCell ?_ _).setCell ?_ _⟩
      · have := hq.2; show q ≠ w.heap.size + 1; omega
      · show w.heap.size + 1 < w.heap.size + 3; omega
      · have := hq.2; show q ≠ w.heap.size + 1; omega
      · show w.heap.size + 1 < w.heap.size + 3; omega
      · show w.heap.size ≤ w.heap.size + 1; omega
      · show w.heap.size ≤ w.heap.size + 1; omega
end Go.Proofs.YtjongcdlginjlaaGreatDoor
namespace Go.Proofs.YtjongcdlginjlaaGreatDoor
open Go.RowKit
theorem allT_lt {s : Sch} {k : Nat} (h : k < s.params.length) : (allT s).getD k default = s.params.getD k default := by
  unfold allT
  rw [List.getD_eq_getElem?_getD, List.getD_eq_getElem?_getD, List.getElem?_append_left h]
theorem allT_last (s : Sch) : (allT s).getD s.params.length default = s.result := by
  unfold allT
  rw [List.getD_eq_getElem?_getD, List.getElem?_append_right (Nat.le_refl _)]
  simp
theorem sch_badA {b : List Bnd} {s : Sch} {i : Nat} (hi : i < s.params.length + 1) (h : subShpOk b ((allT s).getD i default).shape = false) : subSch b s = noSch ∧ subSchE b s = 3 := by
  by_cases h1 : i < s.params.length
  · rw [allT_lt h1] at h; exact sch_badP h1 h
  · obtain rfl : i = s.params.length := by omega
    rw [allT_last] at h; exact sch_badR h
theorem allT_validAt {s : Sch} (hv : validSch s = true) {i : Nat} (hi : i < s.params.length + 1) : validTyp ((allT s).getD i default) = true := by
  have hp := validSch_parts hv
  by_cases h1 : i < s.params.length
  · rw [allT_lt h1]; exact hp.2.2.1 _ (getD_mem h1)
  · obtain rfl : i = s.params.length := by omega
    rw [allT_last]; exact hp.2.2.2.1
set_option maxHeartbeats 4000000 in
theorem ref12_SubstScheme {S T : Blk} {s : Sch} {cs : List Value} {w : World} (h : RSch.rd S w cs s) (hv : validSch s = true) (b : List Bnd) (a : Option Addr) (nb cb : Nat) (hbs : Sl RBnd T w a nb cb b) (hb : validBnds b = true) (hp : PlainB b) :
    Calls Tryz.prog 30 #[.agg cs.toArray, .slice a nb cb] w fun e w' => (∃ ds, e = .returned (.tuple #[.agg ds.toArray, .int .i64 (subSchE b s)]) ∧ OwnSch w.heap.size w' ds (subSch b s)) ∧ Below w.heap.size w w' := by
  have hpl12 : s.params.length ≤ 1000000 := by have := (validSch_parts hv).1; omega
  have HCV : Hid (∀ W, Below w.heap.size w W → Calls Tryz.prog 29 #[.agg cs.toArray] W fun e w' => e = .returned (.bool true) ∧ Below W.heap.size W w') :=
    Lib.hid (fun W hW => hv ▸ ref12_ValidScheme (RSch.below h hW) (sch_sz hv) hpl12)
  have HCA : Hid (∀ W, Below w.heap.size w W → Calls Tryz.prog 33 #[.agg cs.toArray] W fun e w' => (∃ v, e = .returned v ∧ Own RTyp 39 (fun k => S k ∧ k < w.heap.size) w' W.heap.size v (allT s)) ∧ Below W.heap.size W w') :=
    Lib.hid (fun W hW => ref12_all (RSch.below (RSch.mono h (fun k hk hlt => ⟨hk, hlt⟩)) hW) hpl12)
  have HCB : Hid (∀ W, Below w.heap.size w W → Calls Tryz.prog 68 #[.slice a nb cb] W fun e w' => e = .returned (.bool true) ∧ Below W.heap.size W w') :=
    Lib.hid (fun W hW => ref11_ValidBinds b a nb cb W (hbs.below hW) hb)
  have HCT := Lib.hid (fun (S' : Blk) (W : World) (hW : Below w.heap.size w W) (x : Typ) (ds : List Value) (hx : RTyp.rd S' W ds x) (hvx : validTyp x = true) => ref12_Subst hx hvx b a nb cb (hbs.below hW) hb hp)
  have HCL := Lib.hid (fun (W : World) (hW : Below w.heap.size w W) (x : Lin) (ds : List Value) (hx : RLin.rd S W ds x) (hvx : validLin x = true) => ref04_Subst hx hvx b a nb cb (hbs.below hW) (validBnds_good hb))
  have HAV := Lib.hid (fun (i : Nat) (q : i < s.params.length + 1) => allT_validAt hv q)
  have HBadA := Lib.hid (fun (i : Nat) (q : i < s.params.length + 1) => sch_badA (b := b) q)
  have HA1 := Lib.hid (fun (i : Nat) (q : i < s.params.length) => allT_lt q)
  have HA2' := Lib.hid (allT_last s)
  have hAl : (allT s).length = s.params.length + 1 := by unfold allT; rw [List.length_append]; rfl
  obtain ⟨_, _, _, rfl, ⟨ap, cp, rfl, hps⟩, ⟨ar, cr, rfl, hrs⟩, ⟨aq, cq, rfl, hqs⟩⟩ := h; have HPs := Lib.hid hps; have HRs := Lib.hid hrs; have HQs := Lib.hid hqs; have HV := Lib.hid (validSch_parts hv)
  have HGood := Lib.hid (fun q1 q2 q3 => sch_good (b := b) (s := s) hv hb q1 q2 q3)
  have hpm := hps.small; have hqm := hqs.small; have hp12 := (validSch_parts hv).1; have hq60 := (validSch_parts hv).2.1; clear hps hrs hqs hbs hv hb hp
  generalize hnn : s.params.length = n at *
  generalize hmm : s.wh.length = m at *
  have HN := Lib.hid hnn; have HM := Lib.hid hmm; clear hnn hmm
  have B0 : Hid (Below w.heap.size w ((w.alloc (.cells #[.slice ap n cp, .string s.result.elem, .string s.result.shape.row, .slice ar s.result.shape.dims.length cr, .slice aq m cq] 41)).alloc (.cells #[.slice none 0 0, .string ⟨#[]⟩, .string ⟨#[]⟩, .slice none 0 0, .slice none 0 0] 41))) := Lib.hid (((Below.refl _ _).alloc (by simp <;> omega) _).alloc (by simp <;> omega) _)
  have bka : Bx ((w.alloc (.cells #[.slice ap n cp, .string s.result.elem, .string s.result.shape.row, .slice ar s.result.shape.dims.length cr, .slice aq m cq] 41)).alloc (.cells #[.slice none 0 0, .string ⟨#[]⟩, .string ⟨#[]⟩, .slice none 0 0, .slice none 0 0] 41)) (w.heap.size) 41 [.slice ap n cp, .string s.result.elem, .string s.result.shape.row, .slice ar s.result.shape.dims.length cr, .slice aq m cq] := by have h := ((Bx.fresh w 41 [.slice ap n cp, .string s.result.elem, .string s.result.shape.row, .slice ar s.result.shape.dims.length cr, .slice aq m cq]).alloc (.cells #[.slice none 0 0, .string ⟨#[]⟩, .string ⟨#[]⟩, .slice none 0 0, .slice none 0 0] 41)); simpa using h
  have xa0 : ((w.alloc (.cells #[.slice ap n cp, .string s.result.elem, .string s.result.shape.row, .slice ar s.result.shape.dims.length cr, .slice aq m cq] 41)).alloc (.cells #[.slice none 0 0, .string ⟨#[]⟩, .string ⟨#[]⟩, .slice none 0 0, .slice none 0 0] 41)).cell? ⟨w.heap.size, 0, none⟩ = some (.slice ap n cp) := bka.cell 0 _ rfl
  have xa1 : ((w.alloc (.cells #[.slice ap n cp, .string s.result.elem, .string s.result.shape.row, .slice ar s.result.shape.dims.length cr, .slice aq m cq] 41)).alloc (.cells #[.slice none 0 0, .string ⟨#[]⟩, .string ⟨#[]⟩, .slice none 0 0, .slice none 0 0] 41)).cell? ⟨w.heap.size, 1, none⟩ = some (.string s.result.elem) := bka.cell 1 _ rfl
  have xa2 : ((w.alloc (.cells #[.slice ap n cp, .string s.result.elem, .string s.result.shape.row, .slice ar s.result.shape.dims.length cr, .slice aq m cq] 41)).alloc (.cells #[.slice none 0 0, .string ⟨#[]⟩, .string ⟨#[]⟩, .slice none 0 0, .slice none 0 0] 41)).cell? ⟨w.heap.size, 2, none⟩ = some (.string s.result.shape.row) := bka.cell 2 _ rfl
  have xa3 : ((w.alloc (.cells #[.slice ap n cp, .string s.result.elem, .string s.result.shape.row, .slice ar s.result.shape.dims.length cr, .slice aq m cq] 41)).alloc (.cells #[.slice none 0 0, .string ⟨#[]⟩, .string ⟨#[]⟩, .slice none 0 0, .slice none 0 0] 41)).cell? ⟨w.heap.size, 3, none⟩ = some (.slice ar s.result.shape.dims.length cr) := bka.cell 3 _ rfl
  have xa4 : ((w.alloc (.cells #[.slice ap n cp, .string s.result.elem, .string s.result.shape.row, .slice ar s.result.shape.dims.length cr, .slice aq m cq] 41)).alloc (.cells #[.slice none 0 0, .string ⟨#[]⟩, .string ⟨#[]⟩, .slice none 0 0, .slice none 0 0] 41)).cell? ⟨w.heap.size, 4, none⟩ = some (.slice aq m cq) := bka.cell 4 _ rfl
  have bkb : Bx ((w.alloc (.cells #[.slice ap n cp, .string s.result.elem, .string s.result.shape.row, .slice ar s.result.shape.dims.length cr, .slice aq m cq] 41)).alloc (.cells #[.slice none 0 0, .string ⟨#[]⟩, .string ⟨#[]⟩, .slice none 0 0, .slice none 0 0] 41)) (w.heap.size + 1) 41 [.slice none 0 0, .string ⟨#[]⟩, .string ⟨#[]⟩, .slice none 0 0, .slice none 0 0] := by have h := (Bx.fresh (w.alloc (.cells #[.slice ap n cp, .string s.result.elem, .string s.result.shape.row, .slice ar s.result.shape.dims.length cr, .slice aq m cq] 41)) 41 [.slice none 0 0, .string ⟨#[]⟩, .string ⟨#[]⟩, .slice none 0 0, .slice none 0 0]); simpa using h
  have xb0 : ((w.alloc (.cells #[.slice ap n cp, .string s.result.elem, .string s.result.shape.row, .slice ar s.result.shape.dims.length cr, .slice aq m cq] 41)).alloc (.cells #[.slice none 0 0, .string ⟨#[]⟩, .string ⟨#[]⟩, .slice none 0 0, .slice none 0 0] 41)).cell? ⟨w.heap.size + 1, 0, none⟩ = some (.slice none 0 0) := bkb.cell 0 _ rfl
  have xb1 : ((w.alloc (.cells #[.slice ap n cp, .string s.result.elem, .string s.result.shape.row, .slice ar s.result.shape.dims.length cr, .slice aq m cq] 41)).alloc (.cells #[.slice none 0 0, .string ⟨#[]⟩, .string ⟨#[]⟩, .slice none 0 0, .slice none 0 0] 41)).cell? ⟨w.heap.size + 1, 1, none⟩ = some (.string ⟨#[]⟩) := bkb.cell 1 _ rfl
  have xb2 : ((w.alloc (.cells #[.slice ap n cp, .string s.result.elem, .string s.result.shape.row, .slice ar s.result.shape.dims.length cr, .slice aq m cq] 41)).alloc (.cells #[.slice none 0 0, .string ⟨#[]⟩, .string ⟨#[]⟩, .slice none 0 0, .slice none 0 0] 41)).cell? ⟨w.heap.size + 1, 2, none⟩ = some (.string ⟨#[]⟩) := bkb.cell 2 _ rfl
  have xb3 : ((w.alloc (.cells #[.slice ap n cp, .string s.result.elem, .string s.result.shape.row, .slice ar s.result.shape.dims.length cr, .slice aq m cq] 41)).alloc (.cells #[.slice none 0 0, .string ⟨#[]⟩, .string ⟨#[]⟩, .slice none 0 0, .slice none 0 0] 41)).cell? ⟨w.heap.size + 1, 3, none⟩ = some (.slice none 0 0) := bkb.cell 3 _ rfl
  have xb4 : ((w.alloc (.cells #[.slice ap n cp, .string s.result.elem, .string s.result.shape.row, .slice ar s.result.shape.dims.length cr, .slice aq m cq] 41)).alloc (.cells #[.slice none 0 0, .string ⟨#[]⟩, .string ⟨#[]⟩, .slice none 0 0, .slice none 0 0] 41)).cell? ⟨w.heap.size + 1, 4, none⟩ = some (.slice none 0 0) := bkb.cell 4 _ rfl
  have hW0 : ((w.alloc (.cells #[.slice ap n cp, .string s.result.elem, .string s.result.shape.row, .slice ar s.result.shape.dims.length cr, .slice aq m cq] 41)).alloc (.cells #[.slice none 0 0, .string ⟨#[]⟩, .string ⟨#[]⟩, .slice none 0 0, .slice none 0 0] 41)).heap.size = w.heap.size + 2 := by simp
  have HA0 := Lib.hid bka; have HR0 := Lib.hid bkb; clear bka bkb
  go_enter Tryz.func30, Tryz.ntmps30
  go_wp2_with fail
  refine (HCV.out _ B0.out).mono ?_
  rintro e w1 ⟨rfl, hb1⟩
  have hW1 := B0.out.trans (hb1.mono B0.out.size)
  go_wp2_with fail
  refine (HCB.out _ hW1).mono ?_
  rintro e w2 ⟨rfl, hb2⟩
  have HW := Lib.hid (hW1.trans (hb2.mono hW1.size)); have HA2 := Lib.hid ((HA0.out.below hb1 HA0.out.lt).below hb2 (HA0.out.below hb1 HA0.out.lt).lt); have HR2 := Lib.hid ((HR0.out.below hb1 HR0.out.lt).below hb2 (HR0.out.below hb1 HR0.out.lt).lt); have hlR := HR2.out.lt; have hlA := HA2.out.lt; clear xa0 xa1 xa2 xa3 xa4 xb0 xb1 xb2 xb3 xb4 hb1 hb2 hW1 HR0 HA0 B0 HCV HCB; obtain ⟨w3, hw3⟩ : ∃ q, q = w2.alloc (.cells #[.slice none 0 0, .string ⟨#[]⟩, .string ⟨#[]⟩, .slice none 0 0, .slice none 0 0] 41) := ⟨_, rfl⟩; have hfold := hw3.symm
  have HG3 : Hid (Bx w3 w2.heap.size 41 [.slice none 0 0, .string ⟨#[]⟩, .string ⟨#[]⟩, .slice none 0 0, .slice none 0 0]) := Lib.hid (by rw [hw3]; exact Bx.fresh _ _ _)
  have HB3 : Hid (Below w2.heap.size w2 w3) := Lib.hid (by rw [hw3]; exact (Below.refl _ _).alloc (Nat.le_refl _) _)
  clear hw3; have HA3 := Lib.hid (HA2.out.below HB3.out hlA); have y0 := HA3.out.cell 0 _ rfl; have y1 := HA3.out.cell 1 _ rfl; have y2 := HA3.out.cell 2 _ rfl; have y3 := HA3.out.cell 3 _ rfl; have y4 := HA3.out.cell 4 _ rfl
  go_wp2_with fail
  refine (HCA.out w3 (HW.out.trans (HB3.out.mono HW.out.size))).mono ?_
  rintro e w4 ⟨⟨v, rfl, hown⟩, hb4⟩
  obtain ⟨al, cl, rfl, hsl⟩ := hown.sl
  rw [hAl] at hsl ⊢
  have HLs := Lib.hid hsl; have HG4 := Lib.hid (HG3.out.below hb4 HG3.out.lt); have HB4 := Lib.hid (HB3.out.trans (hb4.mono HB3.out.size)); have HA4 := Lib.hid (HA3.out.below hb4 HA3.out.lt); have HR4 := Lib.hid ((HR2.out.below HB3.out HR2.out.lt).below hb4 (HR2.out.below HB3.out HR2.out.lt).lt); have hz3 := hb4.size; have hz4 := HB3.out.size; clear hown hsl hb4 y0 y1 y2 y3 y4; have hzG := HG3.out.lt; have hzW := HW.out.size
  go_wp2_with fail
  go_loopw [8] (fun i wr => ∃ (k : Nat) (v0 c1 c2 c3 : Value), k ≤ n + 1 ∧ i = .int .i64 k ∧ Hid (∀ j, j < k → subShpOk b ((allT s).getD j default).shape = true) ∧ Hid (Own RTyp 39 (fun q => w4.heap.size ≤ q) wr w4.heap.size v0 ((s.params.take k).map (subTypR b))) ∧ Hid (Bx wr w2.heap.size 41 [v0, c1, c2, c3, .slice none 0 0]) ∧ Below w2.heap.size w2 wr ∧ Hid (∀ q, q < w4.heap.size → q ≠ w2.heap.size → wr.heap[q]? = w4.heap[q]?) ∧ w4.heap.size ≤ wr.heap.size ∧ Hid (k ≤ n → c1 = .string ⟨#[]⟩ ∧ c2 = .string ⟨#[]⟩ ∧ c3 = .slice none 0 0) ∧ Hid (k = n + 1 → ∃ a5 c5, c1 = .string (subTypR b s.result).elem ∧ c2 = .string (subTypR b s.result).shape.row ∧ c3 = .slice a5 (subTypR b s.result).shape.dims.length c5 ∧ Sl RLin (fun q => w4.heap.size ≤ q) wr a5 (subTypR b s.result).shape.dims.length c5 (subTypR b s.result).shape.dims)) (fun i _ => n + 1 - (intOf i).toNat)
  case atStart => exact ⟨0, _, _, _, _, Nat.zero_le _, rfl, Lib.hid (fun i hi => absurd hi (by omega)), Lib.hid (Own.nil _ _ _ _ _), HG4, HB4.out, Lib.hid (fun _ _ _ => rfl), Nat.le_refl _, Lib.hid (fun _ => ⟨rfl, rfl, rfl⟩), Lib.hid (fun q => absurd q (by omega))⟩
  case round =>
    obtain ⟨k, v0, c1, c2, c3, hk, rfl, HT, HO, HG, hB, HKeep, hsz, HZ, HE⟩ := hrel; have HBw := Lib.hid (HW.out.trans (hB.mono HW.out.size))
    have HRr : Hid (Bx wr _ _ _) := Lib.hid ((HKeep.out _ HR4.out.lt (by omega)).trans HR4.out)
    have HAr : Hid (Bx wr _ _ _) := Lib.hid ((HKeep.out _ HA4.out.lt (by omega)).trans HA4.out)
    have hlG := HG.out.lt; have hlA3 := HAr.out.lt; have y0 := HAr.out.cell 0 _ rfl
    have HLr := Lib.hid (HLs.out.frame (w' := wr) (fun q hq hlt => HKeep.out q hlt (by rcases hq with hq | hq; exact (by have := hq.2; omega); exact (by have hq : w3.heap.size ≤ q := hq; omega))))
    by_cases hlt : k < n + 1
    · obtain ⟨q1, q2, q3⟩ := HZ.out (by omega)
      subst q1 q2 q3
      clear HE HZ; obtain ⟨a0, m0, c0, rfl⟩ := HO.out.shape; obtain ⟨b1, off, rfl, hbW, _⟩ := HLr.out.form k hlt; obtain ⟨t, hr, ⟨at_, ct, rfl, hts⟩, e0, e1, e2⟩ := HLr.out.typ k hlt
      have HK : Hid (k < n + 1) := Lib.hid hlt
      have HBad := Lib.hid (fun q => HBadA.out k hlt q)
      have HUp := Lib.hid (fun q => upto HT.out (p := fun j => subShpOk b ((allT s).getD j default).shape = true) q)
      have HXv := Lib.hid (HAV.out k hlt)
      have HNx : Hid (k < n → (allT s).getD k default = s.params.getD k default) := Lib.hid (fun q => HA1.out k q)
      have HLx : Hid (k = n → (allT s).getD k default = s.result) := Lib.hid (fun q => by rw [q]; exact HA2'.out)
      have hkl : ((s.params.take k).map (subTypR b)).length = k := by rw [List.length_map, List.length_take, HN.out]; omega
      have HNext : Hid (k < n → (s.params.take (k + 1)).map (subTypR b) = (s.params.take k).map (subTypR b) ++ [subTypR b (s.params.getD k default)]) := Lib.hid (fun q => by rw [take_one (by rw [HN.out]; exact q), List.map_append]; rfl)
      generalize (allT s).getD k default = x at *
      have HCx := Lib.hid (HCT.out _ _ HBw.out x _ hr HXv.out); clear hr hts
      cases hok : subShpOk b x.shape with
      | false =>
        have HBd := Lib.hid (HBad.out hok); rw [(subTyp_no hok).1, (subTyp_no hok).2.1] at HCx; clear hok
        go_wp2_with fail
        refine HCx.out.mono ?_
        rintro e w5 ⟨⟨_, rfl, hr5⟩, hb5⟩
        obtain ⟨_, rfl, a5, c5, rfl, hs5⟩ := hr5; have HR5 := Lib.hid (HRr.out.below hb5 HRr.out.lt); obtain ⟨w7, hfold7⟩ : ∃ q, w5.alloc (.cells #[.string noTyp.elem, .string noTyp.shape.row, .slice a5 noTyp.shape.dims.length c5] 39) = q := ⟨_, rfl⟩; have HRw := Lib.hid (HR5.out.alloc (.cells #[.string noTyp.elem, .string noTyp.shape.row, .slice a5 noTyp.shape.dims.length c5] 39)); rw [hfold7] at HRw
        have HWw : Hid (Below w.heap.size w w7) := Lib.hid (by rw [← hfold7]; exact (HBw.out.trans (hb5.mono HBw.out.size)).alloc (by have := hb5.size; have := HBw.out.size; omega) _)
        have v0 := HRw.out.cell 0 _ rfl; have v1 := HRw.out.cell 1 _ rfl; have v2 := HRw.out.cell 2 _ rfl; have v3 := HRw.out.cell 3 _ rfl; have v4 := HRw.out.cell 4 _ rfl; have u0 := HRw.out.fz 0; have u1 := HRw.out.fz 1; have u2 := HRw.out.fz 2; have u3 := HRw.out.fz 3; have u4 := HRw.out.fz 4; have hlr := HRw.out.lt; have HX60 := Lib.hid (((((HRw.out.set 0 (.slice none 0 0)).set 1 (.string ⟨#[]⟩)).set 2 (.string ⟨#[]⟩)).set 3 (.slice none 0 0)).set 4 (.slice none 0 0)); have s0 := HX60.out.cell 0 _ rfl; have s1 := HX60.out.cell 1 _ rfl; have s2 := HX60.out.cell 2 _ rfl; have s3 := HX60.out.cell 3 _ rfl; have s4 := HX60.out.cell 4 _ rfl
        go_wp2_with fail
        refine bodyPost_ret (v := .tuple #[.agg #[.slice none 0 0, .string ⟨#[]⟩, .string ⟨#[]⟩, .slice none 0 0, .slice none 0 0], .int .i64 3]) (by simp [results, Tryz.results30, go_sem, s0, s1, s2, s3, s4, hlr]) rfl ?_
        refine ⟨⟨[.slice none 0 0, .string ⟨#[]⟩, .string ⟨#[]⟩, .slice none 0 0, .slice none 0 0], by rw [HBd.out.2], by rw [HBd.out.1]; exact OwnSch.no ..⟩, ?_⟩
        repeat (first | exact HWw.out | refine Below.setCell ?_ (by show _ ≤ w.heap.size + 1; omega) _)
      | true =>
        have HUp2 := Lib.hid (HUp.out hok); rw [(subTyp_ok hok).1, (subTyp_ok hok).2.1] at HCx; clear hok HBad HUp
        go_wp2_with fail
        refine HCx.out.mono ?_
        rintro e w5 ⟨⟨_, rfl, hr5⟩, hb5⟩
        obtain ⟨_, rfl, a5, c5, rfl, hs5⟩ := hr5; obtain ⟨y, hy⟩ : ∃ y, y = subTypR b x := ⟨_, rfl⟩; have HY := Lib.hid hy
        rw [← hy] at hs5 ⊢
        clear hy; obtain ⟨w7, hfold7⟩ : ∃ q, w5.alloc (.cells #[.string y.elem, .string y.shape.row, .slice a5 y.shape.dims.length c5] 39) = q := ⟨_, rfl⟩
        have HB7 : Hid (Below wr.heap.size wr w7) := Lib.hid (by rw [← hfold7]; exact hb5.alloc hb5.size _)
        have HP7 : Hid (Bx w7 w5.heap.size 39 [.string y.elem, .string y.shape.row, .slice a5 y.shape.dims.length c5]) := Lib.hid (by rw [← hfold7]; exact Bx.fresh _ _ _)
        have r0 := HP7.out.cell 0 _ rfl; have r1 := HP7.out.cell 1 _ rfl; have r2 := HP7.out.cell 2 _ rfl; have HG7 := Lib.hid (HG.out.below HB7.out hlG); have HA7 := Lib.hid (HAr.out.below HB7.out HAr.out.lt); have z0 := HA7.out.cell 0 _ rfl; have hs7 := HB7.out.size; have HS7 := Lib.hid ((hs5.below ((Below.refl _ _).alloc (Nat.le_refl _) (.cells #[.string y.elem, .string y.shape.row, .slice a5 y.shape.dims.length c5] 39)))); rw [hfold7] at HS7; clear hs5
        by_cases hkn : k < n
        · have g0 := HG7.out.cell 0 _ rfl
          have hki : (k : Int) < (n : Int) := by omega
          have HRY : Hid (RTyp.rd (fun q => w4.heap.size ≤ q ∧ (Value.slice a0 m0 c0).ownBlock ≠ some q) w7 [.string y.elem, .string y.shape.row, .slice a5 y.shape.dims.length c5] y) := Lib.hid ⟨_, rfl, a5, c5, rfl, HS7.out.mono (fun q hq _ => ⟨by have hq : wr.heap.size ≤ q := hq; omega, fun e => by have h8 := (HO.out.block e).2; have hq : wr.heap.size ≤ q := hq; omega⟩)⟩
          have HNext2 : Hid ((s.params.take (k + 1)).map (subTypR b) = (s.params.take k).map (subTypR b) ++ [y]) := Lib.hid (by rw [HNext.out hkn, ← HNx.out hkn, HY.out])
          generalize (s.params.take k).map (subTypR b) = lk at *
          go_wp2_with (at_builtin; refine app_one elemTyp rfl _ _ rfl w4.heap.size _ _ rfl ((HO.out.below HB7.out).alloc _) _ y [.string y.elem, .string y.shape.row, .slice a5 y.shape.dims.length c5] rfl (RTyp.below HRY.out ((Below.refl _ _).alloc (Nat.le_refl _) _)) (cellsN 39 (by (simp only [drew_heap, alloc_heap, Array.getElem?_push, Array.size_push]; simp))) (by omega) (by unfold maxLen; omega) (by simp; omega) ?_; intro v9 w9 hown9 hb9 hk9; obtain ⟨a9, m9, c9, rfl⟩ := hown9.shape; have HG9 := Lib.hid ((HG7.out.alloc _).kp hk9 (HO.out.ne (by omega))); have g9 := HG9.out.cell 0 _ rfl; have u9 := HG9.out.fz 0)
          go_roundw
          case rel => exact ⟨k + 1, _, _, _, _, by omega, by go_num, HUp2, Lib.hid (by rw [HNext2.out]; exact hown9.set _ (fun q hq => by show q ≠ w2.heap.size; omega) (by show w2.heap.size < _; omega)), Lib.hid (HG9.out.set 0 _), ((hB.trans (HB7.out.mono hB.size)).trans (((Below.refl _ _).alloc (by omega) _).trans (hb9.mono (by omega)))).setCell (Nat.le_refl _) _, Lib.hid (fun q hq hne => (heap_set_ne (fun e => hne e.symm)).trans ((((Below.refl _ _).alloc (B := w4.heap.size) (by omega) _).trans hb9).block q hq |>.trans ((HB7.out.block q (by omega)).trans (HKeep.out q hq hne)))), by have := hb9.size; simp at this ⊢; omega, Lib.hid (fun _ => ⟨rfl, rfl, rfl⟩), Lib.hid (fun q => absurd q (by omega))⟩
          case measure => simp [intOf]; omega
        · have hki : ¬ (k : Int) < (n : Int) := by omega
          have g1 := HG7.out.cell 1 _ rfl; have g2 := HG7.out.cell 2 _ rfl; have g3 := HG7.out.cell 3 _ rfl; have u1 := HG7.out.fz 1; have u2 := HG7.out.fz 2; have u3 := HG7.out.fz 3
          obtain rfl : k = n := by omega
          have HYr : Hid (y = subTypR b s.result) := Lib.hid (by rw [HY.out, HLx.out rfl])
          have HTk : Hid (s.params.take (k + 1) = s.params.take k) := Lib.hid (by rw [List.take_of_length_le (by rw [HN.out]; omega), List.take_of_length_le (by rw [HN.out]; omega)])
          go_wp2_with fail
          go_roundw
          case rel =>
            refine ⟨k + 1, _, _, _, _, by omega, by go_num, HUp2, Lib.hid (by rw [HTk.out]; exact (((HO.out.below HB7.out).set _ (fun q hq => by show q ≠ w2.heap.size; omega) (by show w2.heap.size < _; omega)).set _ (fun q hq => by show q ≠ w2.heap.size; omega) (by show w2.heap.size < _; omega)).set _ (fun q hq => by show q ≠ w2.heap.size; omega) (by show w2.heap.size < _; omega)), Lib.hid (((HG7.out.set 1 _).set 2 _).set 3 _), (((hB.trans (HB7.out.mono hB.size)).setCell (Nat.le_refl _) _).setCell (Nat.le_refl _) _).setCell (Nat.le_refl _) _, Lib.hid (fun q hq hne => (heap_set_ne (fun e => hne e.symm)).trans ((heap_set_ne (fun e => hne e.symm)).trans ((heap_set_ne (fun e => hne e.symm)).trans ((HB7.out.block q (by omega)).trans (HKeep.out q hq hne))))), by simp <;> omega, Lib.hid (fun q => absurd q (by omega)), Lib.hid (fun _ => ?_)⟩
            refine ⟨a5, c5, by rw [HYr.out], by rw [HYr.out], by rw [HYr.out], ?_⟩
            rw [← HYr.out]
            have hne : ∀ q, w4.heap.size ≤ q → w2.heap.size ≠ q := fun q hq => by omega
            exact ((((HS7.out.mono (S' := fun q => w4.heap.size ≤ q) (fun q hq _ => by have hq : wr.heap.size ≤ q := hq; omega)).set hne).set hne).set hne)
          case measure => simp [intOf] <;> omega
    · have hkn : k = n + 1 := by omega
      obtain ⟨a5, c5, q1, q2, q3, hs5⟩ := HE.out hkn
      have hki : ¬ (k : Int) < (n : Int) + 1 := by omega
      subst q1 q2 q3
      have HokR : Hid (subShpOk b s.result.shape = true) := Lib.hid (by have := HT.out n (by omega); rwa [HA2'.out] at this)
      have HT0 : Hid (∀ j, j < n → subShpOk b (s.params.getD j default).shape = true) := Lib.hid (fun j hj => by have := HT.out j (by omega); rwa [HA1.out j hj] at this)
      have HAll : Hid ((s.params.take k).map (subTypR b) = s.params.map (subTypR b)) := Lib.hid (by rw [List.take_of_length_le (by rw [HN.out]; omega)])
      have HO7 := Lib.hid (HAll.out ▸ (HO.out.lower (base' := w2.heap.size + 1) (by omega)).mono (S' := fun q => w2.heap.size < q) (fun q hq _ => by have hq : w4.heap.size ≤ q := hq; omega))
      obtain ⟨y, hy⟩ : ∃ y, y = subTypR b s.result := ⟨_, rfl⟩; have HY := Lib.hid hy; rw [← hy] at hs5 HG; clear hy
      have HS7 := Lib.hid (hs5.mono (S' := fun q => w2.heap.size < q) (fun q hq _ => by have hq : w4.heap.size ≤ q := hq; omega))
      obtain ⟨a0, m0, c0, rfl⟩ := HO7.out.shape; clear HT HE HZ HO HAll hs5 HLr; have HT := HT0; have HG7 := HG; have HB7 := Lib.hid hB; have HR7 := HRr; have HA7 := HAr; have hl7 := hlG; clear HT0 HG hB HRr HAr hlG HKeep HR4 HA4 HG4 HLs HBw
      rename World => w7
      go_wp2_with fail
      have HMore : Hid (∀ W : World, W.heap[w.heap.size]? = w7.heap[w.heap.size]? → W.cell? ⟨w.heap.size, 4, none⟩ = some (.slice aq m cq)) := Lib.hid (fun W q => Bx.cell (w := W) (q.trans HA7.out) 4 _ rfl)
      go_loopw [11] (fun i wt => ∃ (k : Nat) (v0 : Value), k ≤ m ∧ i = .int .i64 k ∧ Hid (∀ j, j < k → validLin (subRaw b (s.wh.getD j default)) = true) ∧ Hid (Own RLin 65 (fun q => w7.heap.size ≤ q) wt w7.heap.size v0 ((s.wh.take k).map (subRaw b))) ∧ Hid (Bx wt w2.heap.size 41 [.slice a0 m0 c0, .string y.elem, .string y.shape.row, .slice a5 y.shape.dims.length c5, v0]) ∧ Below w2.heap.size w2 wt ∧ Hid (∀ q, q < w7.heap.size → q ≠ w2.heap.size → wt.heap[q]? = w7.heap[q]?) ∧ w7.heap.size ≤ wt.heap.size) (fun i _ => m - (intOf i).toNat)
      case atStart => exact ⟨0, _, Nat.zero_le _, rfl, Lib.hid (fun i hi => absurd hi (by omega)), Lib.hid (Own.nil _ _ _ _ _), HG7, HB7.out, Lib.hid (fun _ _ _ => rfl), Nat.le_refl _⟩
      case round =>
        clear HG7; obtain ⟨k, v0, hk, rfl, HTw, HOw, HG, hB, HKeep, hsz⟩ := hrel; have HBw := Lib.hid (HW.out.trans (hB.mono HW.out.size))
        have HRr : Hid (Bx wr _ _ _) := Lib.hid ((HKeep.out _ HR7.out.lt (by omega)).trans HR7.out)
        have hlG := HG.out.lt; have hlR := HRr.out.lt; obtain ⟨a6, m6, c6, rfl⟩ := HOw.out.shape
        have y4 := HMore.out wr (HKeep.out _ (by omega) (by omega))
        by_cases hlt : k < m
        · obtain ⟨b1, off, rfl, hbW, _⟩ := HQs.out.form k hlt
          obtain ⟨t, hr, ⟨at_, ct, rfl, hts⟩, e0, e1⟩ := (HQs.out.below HBw.out).lin k hlt
          have HK : Hid (k < s.wh.length) := Lib.hid (by rw [HM.out]; exact hlt)
          have HNext : Hid ((s.wh.take (k + 1)).map (subRaw b) = (s.wh.take k).map (subRaw b) ++ [subRaw b (s.wh.getD k default)]) := Lib.hid (by rw [take_one HK.out, List.map_append]; rfl)
          have hkl : ((s.wh.take k).map (subRaw b)).length = k := by rw [List.length_map, List.length_take, HM.out]; omega
          have HBad := Lib.hid (fun q => sch_badW (b := b) HK.out q)
          have HUp := Lib.hid (fun q => upto HTw.out (p := fun j => validLin (subRaw b (s.wh.getD j default)) = true) q)
          have HXv := Lib.hid (HV.out.2.2.2.2 _ (getD_mem HK.out))
          generalize s.wh.getD k default = x at *
          generalize (s.wh.take k).map (subRaw b) = lk at *
          have HCx := Lib.hid (HCL.out _ HBw.out x _ hr HXv.out); clear hr hts
          cases hvx : validLin (subRaw b x) with
          | false =>
            have HBd := Lib.hid (HBad.out hvx); rw [(lim_bad hvx).2] at HCx; clear hvx
            generalize limL (subRaw b x) = z at *
            go_wp2_with fail
            refine HCx.out.mono ?_
            rintro e w5 ⟨⟨_, rfl, hr5⟩, hb5⟩
            obtain ⟨_, rfl, a8, c8, rfl, hs5⟩ := hr5; have HR5 := Lib.hid (HRr.out.below hb5 HRr.out.lt); obtain ⟨w8, hfold8⟩ : ∃ q, w5.alloc (.cells #[.int .i64 z.const, .slice a8 z.terms.length c8] 65) = q := ⟨_, rfl⟩; have HRw := Lib.hid (HR5.out.alloc (.cells #[.int .i64 z.const, .slice a8 z.terms.length c8] 65)); rw [hfold8] at HRw
            have HWw : Hid (Below w.heap.size w w8) := Lib.hid (by rw [← hfold8]; exact (HBw.out.trans (hb5.mono HBw.out.size)).alloc (by have := hb5.size; have := HBw.out.size; omega) _)
            have v0 := HRw.out.cell 0 _ rfl; have v1 := HRw.out.cell 1 _ rfl; have v2 := HRw.out.cell 2 _ rfl; have v3 := HRw.out.cell 3 _ rfl; have v4 := HRw.out.cell 4 _ rfl; have u0 := HRw.out.fz 0; have u1 := HRw.out.fz 1; have u2 := HRw.out.fz 2; have u3 := HRw.out.fz 3; have u4 := HRw.out.fz 4; have hlr := HRw.out.lt; have HX60 := Lib.hid (((((HRw.out.set 0 (.slice none 0 0)).set 1 (.string ⟨#[]⟩)).set 2 (.string ⟨#[]⟩)).set 3 (.slice none 0 0)).set 4 (.slice none 0 0)); have s0 := HX60.out.cell 0 _ rfl; have s1 := HX60.out.cell 1 _ rfl; have s2 := HX60.out.cell 2 _ rfl; have s3 := HX60.out.cell 3 _ rfl; have s4 := HX60.out.cell 4 _ rfl
            go_wp2_with fail
            refine bodyPost_ret (v := .tuple #[.agg #[.slice none 0 0, .string ⟨#[]⟩, .string ⟨#[]⟩, .slice none 0 0, .slice none 0 0], .int .i64 3]) (by simp [results, Tryz.results30, go_sem, s0, s1, s2, s3, s4, hlr]) rfl ?_
            refine ⟨⟨[.slice none 0 0, .string ⟨#[]⟩, .string ⟨#[]⟩, .slice none 0 0, .slice none 0 0], by rw [HBd.out.2], by rw [HBd.out.1]; exact OwnSch.no ..⟩, ?_⟩
            repeat (first | exact HWw.out | refine Below.setCell ?_ (by show _ ≤ w.heap.size + 1; omega) _)
          | true =>
            have HUp2 := Lib.hid (HUp.out hvx); clear HUp; rw [(lim_good hvx).1, (lim_good hvx).2] at HCx; clear hvx HBad
            go_wp2_with fail
            refine HCx.out.mono ?_
            rintro e w5 ⟨⟨_, rfl, hr5⟩, hb5⟩
            obtain ⟨_, rfl, a8, c8, rfl, hs5⟩ := hr5
            generalize subRaw b x = z at *
            obtain ⟨w8, hfold8⟩ : ∃ q, w5.alloc (.cells #[.int .i64 z.const, .slice a8 z.terms.length c8] 65) = q := ⟨_, rfl⟩
            have HB8 : Hid (Below wr.heap.size wr w8) := Lib.hid (by rw [← hfold8]; exact hb5.alloc hb5.size _)
            have HP8 : Hid (Bx w8 w5.heap.size 65 [.int .i64 z.const, .slice a8 z.terms.length c8]) := Lib.hid (by rw [← hfold8]; exact Bx.fresh _ _ _)
            have r0 := HP8.out.cell 0 _ rfl; have r1 := HP8.out.cell 1 _ rfl
            have HS8 : Hid (Sl RCoef (fun q => wr.heap.size ≤ q) w8 a8 z.terms.length c8 z.terms) := Lib.hid (hfold8 ▸ (hs5.below ((Below.refl _ _).alloc (Nat.le_refl _) (.cells #[.int .i64 z.const, .slice a8 z.terms.length c8] 65))))
            clear hs5 hb5; have HG8 := Lib.hid (HG.out.below HB8.out hlG); have g4 := HG8.out.cell 4 _ rfl; have hs8 := HB8.out.size
            have HRY : Hid (RLin.rd (fun q => w7.heap.size ≤ q ∧ (Value.slice a6 m6 c6).ownBlock ≠ some q) w8 [.int .i64 z.const, .slice a8 z.terms.length c8] z) := Lib.hid ⟨_, rfl, a8, c8, rfl, HS8.out.mono (fun q hq _ => ⟨by have : wr.heap.size ≤ q := hq; omega, fun e => by have h8 := (HOw.out.block e).2; have : wr.heap.size ≤ q := hq; omega⟩)⟩
            clear HS8
            go_wp2_with (at_builtin; refine app_one elemLin rfl _ _ rfl w7.heap.size _ _ rfl ((HOw.out.below HB8.out).alloc _) _ z [.int .i64 z.const, .slice a8 z.terms.length c8] rfl (RLin.below HRY.out ((Below.refl _ _).alloc (Nat.le_refl _) _)) (cellsN 65 (by (simp only [drew_heap, alloc_heap, Array.getElem?_push, Array.size_push]; simp))) (by omega) (by unfold maxLen; omega) (by simp; omega) ?_; intro v9 w9 hown9 hb9 hk9; obtain ⟨a9, m9, c9, rfl⟩ := hown9.shape; have HG9 := Lib.hid ((HG8.out.alloc _).kp hk9 (HOw.out.ne hl7)); have g9 := HG9.out.cell 4 _ rfl; have u9 := HG9.out.fz 4)
            go_roundw
            case rel => exact ⟨k + 1, _, by omega, by go_num, HUp2, Lib.hid (by rw [HNext.out]; exact hown9.set _ (fun q hq => Nat.ne_of_gt (Nat.lt_of_lt_of_le hl7 hq)) hl7), Lib.hid (HG9.out.set 4 _), ((hB.trans (HB8.out.mono hB.size)).trans (((Below.refl _ _).alloc (by omega) _).trans (hb9.mono (Nat.le_of_lt hl7)))).setCell (Nat.le_refl _) _, Lib.hid (fun q hq hne => (heap_set_ne (fun e => hne e.symm)).trans ((((Below.refl _ _).alloc (B := w7.heap.size) (by omega) _).trans hb9).block q hq |>.trans ((HB8.out.block q (by omega)).trans (HKeep.out q hq hne)))), by have := hb9.size; simp at this ⊢; omega⟩
            case measure => simp [intOf]; omega
        · obtain rfl : k = m := by omega
          have HAll : Hid ((s.wh.take k).map (subRaw b) = s.wh.map (subRaw b)) := Lib.hid (by rw [List.take_of_length_le (by rw [HM.out]; exact Nat.le_refl _)])
          rw [HAll.out] at HOw; obtain ⟨z1, z2⟩ := HGood.out HT.out HokR.out HTw.out; have HZ1 := Lib.hid z1; have HZ2 := Lib.hid z2; clear z1 z2; have g0 := HG.out.cell 0 _ rfl; have g1 := HG.out.cell 1 _ rfl; have g2 := HG.out.cell 2 _ rfl; have g3 := HG.out.cell 3 _ rfl; have g4 := HG.out.cell 4 _ rfl; have v0 := HRr.out.cell 0 _ rfl; have v1 := HRr.out.cell 1 _ rfl; have v2 := HRr.out.cell 2 _ rfl; have v3 := HRr.out.cell 3 _ rfl; have v4 := HRr.out.cell 4 _ rfl; have u0 := HRr.out.fz 0; have u1 := HRr.out.fz 1; have u2 := HRr.out.fz 2; have u3 := HRr.out.fz 3; have u4 := HRr.out.fz 4; have hlr := HRr.out.lt; have HX60 := Lib.hid (((((HRr.out.set 0 (.slice a0 m0 c0)).set 1 (.string y.elem)).set 2 (.string y.shape.row)).set 3 (.slice a5 y.shape.dims.length c5)).set 4 (.slice a6 m6 c6)); have s0 := HX60.out.cell 0 _ rfl; have s1 := HX60.out.cell 1 _ rfl; have s2 := HX60.out.cell 2 _ rfl; have s3 := HX60.out.cell 3 _ rfl; have s4 := HX60.out.cell 4 _ rfl
          go_wp2_with fail
          refine bodyPost_ret (v := .tuple #[.agg #[.slice a0 m0 c0, .string y.elem, .string y.shape.row, .slice a5 y.shape.dims.length c5, .slice a6 m6 c6], .int .i64 0]) (by simp [results, Tryz.results30, go_sem, s0, s1, s2, s3, s4, hlr]) rfl ?_
          refine ⟨⟨[.slice a0 m0 c0, .string y.elem, .string y.shape.row, .slice a5 y.shape.dims.length c5, .slice a6 m6 c6], by rw [HZ2.out], ?_⟩, ?_⟩
          · rw [HZ1.out]
            have q2 := (HS7.out.mono (S' := fun q => w2.heap.size < q ∧ q < w7.heap.size) (fun q hq hlt => ⟨hq, hlt⟩)).frame (w' := wr) (fun q hq hlt => HKeep.out q hlt (Nat.ne_of_gt hq.1))
            obtain ⟨a10, c10, e10, q1⟩ := HO7.out.sl
            have q1 := (q1.mono (S' := fun q => w2.heap.size < q ∧ q < w7.heap.size) (fun q hq hlt => ⟨hq.elim id id, hlt⟩)).frame (w' := wr) (fun q hq hlt => HKeep.out q hlt (Nat.ne_of_gt hq.1))
            rw [Value.slice.injEq] at e10; obtain ⟨rfl, rfl, rfl⟩ := e10
            have hR2 : ∀ {α : Type} {R : Rep α} {a : Option Addr} {n c : Nat} {l : List α}, Sl R (fun q => w2.heap.size < q ∧ q < w7.heap.size) wr a n c l → Sl R (fun k => w.heap.size ≤ k ∧ k < w7.heap.size) (((((wr.setCell ⟨w.heap.size + 1, 0, none⟩ (.slice a0 (s.params.map (subTypR b)).length c0)).setCell ⟨w.heap.size + 1, 1, none⟩ (.string y.elem)).setCell ⟨w.heap.size + 1, 2, none⟩ (.string y.shape.row)).setCell ⟨w.heap.size + 1, 3, none⟩ (.slice a5 y.shape.dims.length c5)).setCell ⟨w.heap.size + 1, 4, none⟩ (.slice a6 m6 c6)) a n c l := by
              intro α R a n c l hs
              have hne : ∀ q, (w2.heap.size < q ∧ q < w7.heap.size) → w.heap.size + 1 ≠ q := fun q hq => by omega
              exact (((((hs.set hne).set hne).set hne).set hne).set hne).mono (fun q hq _ => by omega)
            have hS3 : ∀ q, w7.heap.size ≤ q → q ≠ w.heap.size + 1 := fun q hq => by omega
            have hl3 : w.heap.size + 1 < w7.heap.size := by omega
            refine ⟨w7.heap.size, _, _, _, by omega, by rw [HY.out]; rfl, ⟨a0, c0, rfl, hR2 q1⟩, ⟨a5, c5, by first | rfl | (rw [HY.out]; rfl), ?_⟩, ((((HOw.out.set _ hS3 hl3).set _ hS3 hl3).set _ hS3 hl3).set _ hS3 hl3).set _ hS3 hl3⟩
            have := hR2 q2
            show Sl RLin _ _ a5 (subTypR b s.result).shape.dims.length c5 (subTypR b s.result).shape.dims
            rw [← HY.out]
            exact this
          · repeat (first | exact HBw.out | refine Below.setCell ?_ (by show _ ≤ w.heap.size + 1; omega) _)
end Go.Proofs.YtjongcdlginjlaaGreatDoor
namespace Go.Proofs.YtjongcdlginjlaaGreatDoor
open Go.RowKit
structure Els {α : Type} (R : Rep α) (S : Blk) (w : World) (a : Option Addr) (n c : Nat) (l : List α) : Prop where
  len : l.length = n
  cap : n ≤ c
  max : c ≤ maxLen
  nil : a = none → c = 0
  at_ : ∀ (i : Nat) (x : α), l[i]? = some x → ∃ b off cs, a = some ⟨b, off, none⟩ ∧ R.rd S w cs x ∧ ∀ j u, cs[j]? = some u → w.cell? ⟨b, off + (i * R.size + j), none⟩ = some u
theorem Sl.els {α : Type} {R : Rep α} {S : Blk} {w : World} {a : Option Addr} {n c : Nat} {l : List α} (h : Sl R S w a n c l) : Els R S w a n c l := ⟨h.len, h.cap, h.max, h.nil, fun i x hx => let ⟨b, off, cs, ha, _, hr, hc⟩ := h.at_ i x hx; ⟨b, off, cs, ha, hr, hc⟩⟩
theorem Own.els {α : Type} {R : Rep α} {E : TypeId} {S : Blk} {w : World} {base : Nat} {v : Value} {l : List α} (h : Own R E S w base v l) : ∃ a c, v = .slice a l.length c ∧ Els R (fun k => S k ∧ v.ownBlock ≠ some k) w a l.length c l := by
  obtain ⟨css, hl, hrow, hel⟩ := h.row; obtain ⟨a, c, e, hs⟩ := h.sl
  refine ⟨a, c, e, hs.len, hs.cap, hs.max, hs.nil, fun i x hx => ?_⟩
  obtain ⟨cs, hcs, hr⟩ := hel i x hx; subst e
  have hall : ∀ cs ∈ css, cs.length = R.size := fun cs' hm' => by
    obtain ⟨i', hi', rfl⟩ := List.getElem_of_mem hm'
    obtain ⟨cs2, e2, r2⟩ := hel i' (l[i']'(by omega)) (List.getElem?_eq_getElem (by omega))
    rw [List.getElem?_eq_getElem hi'] at e2
    cases e2
    exact R.len r2
  obtain ⟨_, ⟨hv, h0⟩ | ⟨g, cap, cur, hv, hg, hh, hn, hm, hsz, ht⟩⟩ := hrow
  · obtain rfl : l = [] := List.eq_nil_of_length_eq_zero h0
    simp at hx
  · rw [Value.slice.injEq] at hv
    obtain ⟨rfl, -, rfl⟩ := hv
    refine ⟨g, 0, cs, rfl, hr, fun j u hu => ?_⟩
    have hu2 := flatten_at hall i cs j u hcs hu
    have hlt : i * R.size + j < l.length * R.size := by
      have hfl : css.flatten.length = l.length * R.size := by rw [flatten_len hall, hl]
      rw [← hfl]
      rcases Nat.lt_or_ge (i * R.size + j) css.flatten.length with q | q
      · exact q
      · rw [List.getElem?_eq_none q] at hu2; cases hu2
    rw [Nat.zero_add]
    have : cur.toList[i * R.size + j]? = some u := by
      rw [← ht, List.getElem?_take, if_pos hlt] at hu2
      exact hu2
    simp [World.cell?, hh]
    rw [← Array.getElem?_toList]
    exact this
theorem Els.below {α : Type} {R : Rep α} {S : Blk} {w w' : World} {a : Option Addr} {n c : Nat} {l : List α} (h : Els R S w a n c l) (hb : Below w.heap.size w w') : Els R S w' a n c l :=
  ⟨h.len, h.cap, h.max, h.nil, fun i x hx => let ⟨b, off, cs, ha, hr, hc⟩ := h.at_ i x hx; ⟨b, off, cs, ha, R.below hr hb, fun j u hu => cell_keep (hc j u hu) (hb.block b)⟩⟩
theorem Els.mono {α : Type} {R : Rep α} {S S' : Blk} {w : World} {a : Option Addr} {n c : Nat} {l : List α} (h : Els R S w a n c l) (hs : ∀ k, S k → k < w.heap.size → S' k) : Els R S' w a n c l :=
  ⟨h.len, h.cap, h.max, h.nil, fun i x hx => let ⟨b, off, cs, ha, hr, hc⟩ := h.at_ i x hx; ⟨b, off, cs, ha, R.mono hr hs, hc⟩⟩
theorem Els.full {α : Type} {R : Rep α} {S : Blk} {w : World} {a : Option Addr} {n c : Nat} {l : List α} (h : Els R S w a n c l) (m : Nat) (hm : m ≤ n) : Els R S w a m m (l.take m) :=
  ⟨by rw [List.length_take, h.len]; omega, Nat.le_refl _, by have := h.max; have := h.cap; omega, fun e => by have := h.nil e; have := h.cap; omega, fun i x hx => by
    rw [List.getElem?_take] at hx
    split at hx
    · exact h.at_ i x hx
    · cases hx⟩
theorem Els.drop {α : Type} {R : Rep α} {S : Blk} {w : World} {b off n c : Nat} {l : List α} (h : Els R S w (some ⟨b, off, none⟩) n c l) (m : Nat) (hm : m ≤ n) : Els R S w (some ⟨b, off + m * R.size, none⟩) (n - m) (c - m) (l.drop m) := by
  refine ⟨by rw [List.length_drop, h.len], by have := h.cap; omega, by have := h.max; omega, (by intro h; cases h), fun i x hx => ?_⟩
  rw [List.getElem?_drop] at hx; obtain ⟨b', off', cs, ha, hr, hc⟩ := h.at_ (m + i) x hx
  cases ha
  refine ⟨b, off + m * R.size, cs, rfl, hr, fun j u hu => ?_⟩
  have := hc j u hu
  rw [Nat.add_mul] at this
  rwa [show off + m * R.size + (i * R.size + j) = off + (m * R.size + i * R.size + j) by omega]
theorem Els.none {α : Type} {R : Rep α} {S : Blk} {w : World} {a : Option Addr} {c : Nat} (hm : c ≤ maxLen) (hn : a = none → c = 0) : Els R S w a 0 c [] := ⟨rfl, Nat.zero_le _, hm, hn, fun i x h => by simp at h⟩
theorem Els.cellsList {α : Type} {R : Rep α} {S : Blk} {w : World} {ad : Addr} {n c : Nat} {l : List α} (h : Els R S w (some ad) n c l) :
    ∃ css : List (List Value), css.length = l.length ∧ (∀ cs ∈ css, cs.length = R.size) ∧ (∀ (i : Nat) (x : α), l[i]? = some x → ∃ cs, css[i]? = some cs ∧ R.rd S w cs x) ∧ (∀ j u, css.flatten[j]? = some u → w.cell? (ad.add j) = some u) ∧ ∀ u ∈ css.flatten, u.oneCell' = true := by
  have hch : ∀ (n : Nat) (q : List α), (∀ (i : Nat) (x : α), q[i]? = some x → ∃ cs : List Value, R.rd S w cs x ∧ ∀ j u, cs[j]? = some u → w.cell? (ad.add ((n + i) * R.size + j)) = some u) →
      ∃ dss : List (List Value), dss.length = q.length ∧ (∀ (i : Nat) (x : α), q[i]? = some x → ∃ cs, dss[i]? = some cs ∧ R.rd S w cs x ∧ ∀ j u, cs[j]? = some u → w.cell? (ad.add ((n + i) * R.size + j)) = some u) := by
    intro n q
    induction q generalizing n with
    | nil => exact fun _ => ⟨[], rfl, fun i x hx => by simp at hx⟩
    | cons x q ih =>
      intro hq
      obtain ⟨cs, c1, c2⟩ := hq 0 x rfl
      obtain ⟨dss, d1, d2⟩ := ih (n + 1) (fun i y hy => by
        obtain ⟨ds, e1, e2⟩ := hq (i + 1) y (by simpa using hy)
        exact ⟨ds, e1, by rwa [show n + 1 + i = n + (i + 1) by omega]⟩)
      refine ⟨cs :: dss, by simp [d1], fun i y hy => ?_⟩
      cases i with
      | zero => simp at hy; subst hy; exact ⟨cs, rfl, c1, c2⟩
      | succ i =>
        obtain ⟨ds, e1, e2, e3⟩ := d2 i y (by simpa using hy)
        exact ⟨ds, by simpa using e1, e2, by rwa [show n + 1 + i = n + (i + 1) by omega] at e3⟩
  obtain ⟨dss, hdl, hdd⟩ := hch 0 l (fun i x hx => by
    obtain ⟨b, off, cs, e, r1, r2⟩ := h.at_ i x hx
    cases e
    refine ⟨cs, r1, fun j u hu => ?_⟩
    rw [add_mk, Nat.zero_add]
    exact r2 j u hu)
  have hdm : ∀ cs ∈ dss, cs.length = R.size := fun cs hc => by
    obtain ⟨i, hi', rfl⟩ := List.getElem_of_mem hc
    obtain ⟨cs2, e2, r2, _⟩ := hdd i (l[i]'(by omega)) (List.getElem?_eq_getElem (by omega))
    rw [List.getElem?_eq_getElem hi'] at e2
    cases e2
    exact R.len r2
  refine ⟨dss, hdl, hdm, fun i x hx => let ⟨cs, e1, e2, _⟩ := hdd i x hx; ⟨cs, e1, e2⟩, fun j u hu => ?_, fun u hu => ?_⟩
  · obtain ⟨cs, e1, e2⟩ := flatten_get R.pos hdm j u hu
    have hjl : j / R.size < dss.length := by
      rcases Nat.lt_or_ge (j / R.size) dss.length with q | q
      · exact q
      · rw [List.getElem?_eq_none q] at e1; cases e1
    obtain ⟨cs2, f1, f2, f3⟩ := hdd (j / R.size) (l[j / R.size]'(by omega)) (List.getElem?_eq_getElem (by omega))
    rw [e1] at f1
    cases f1
    have := f3 _ u e2
    rwa [Nat.zero_add, Nat.mul_comm, Nat.div_add_mod] at this
  · obtain ⟨cs, hc, hu'⟩ := List.mem_flatten.1 hu
    obtain ⟨i, hi', rfl⟩ := List.getElem_of_mem hc
    obtain ⟨cs2, e2, r2, _⟩ := hdd i (l[i]'(by omega)) (List.getElem?_eq_getElem (by omega))
    rw [List.getElem?_eq_getElem hi'] at e2
    cases e2
    exact R.one r2 u hu'
theorem Els.run_full {α : Type} {R : Rep α} {P : Program} {T E : TypeId} {bytes : Nat} (he : ElemOf P T E R.size bytes) {S : Blk} {w : World} {a : Option Addr} {k : Nat} {l1 l2 : List α} (h1 : Els R S w a k k l1) (ty : TypeId) {ao : Option Addr} {m c : Nat} (h2 : Els R S w ao m c l2) (hm : 0 < m)
    (hlen : (k + m) * bytes ≤ 140737488355328) (hmax : k + m ≤ maxLen) :
    ∃ v' w', (Builtin.append_ #[T, T] ty #[.slice a k k, .slice ao m c]).run P w = .ok v' w' ∧ Own R E S w' w.heap.size v' (l1 ++ l2) ∧ Below w.heap.size w w' := by
  obtain ⟨i0, z0, hi, hz, hs, hb, hzs⟩ := he.parts
  cases a with
  | none =>
    have hk := h1.nil rfl; subst hk; obtain rfl : l1 = [] := List.eq_nil_of_length_eq_zero h1.len
    obtain ⟨v', w', r1, r2, r3, _⟩ := (Own.nil R E S w w.heap.size).run_app he (l' := l2) ty ao m c h2.len h2.nil (fun i x hx => by
      obtain ⟨b, off, cs, e, q1, q2⟩ := h2.at_ i x hx
      exact ⟨b, off, cs, e, R.mono q1 (fun q hq _ => ⟨hq, fun e => by cases e⟩), q2⟩) (by simpa using hlen) (by simpa using hmax) (Nat.le_refl _)
    exact ⟨v', w', r1, r2, r3⟩
  | some ad =>
    cases ao with
    | none => have := h2.nil rfl; have := h2.cap; omega
    | some ax =>
      obtain ⟨css, c1, c2, c3, c4, c5⟩ := h1.cellsList; obtain ⟨dss, d1, d2, d3, d4, d5⟩ := h2.cellsList
      obtain ⟨v', w', r1, r2, r3⟩ := run_append_arg_grows (P := P) w T ty E i0 z0 R.size bytes he.slice hi hz hs hb hzs R.pos ad k k css.flatten (by rw [flatten_len c2, c1, h1.len]) c4 ax m c dss.flatten (by rw [flatten_len d2, d1, h2.len]) d4 (by omega) hmax hlen
      have hB : Below w.heap.size w w' := (Below.refl _ _).grown r3 (Nat.le_refl _) (fun k h => by cases h)
      obtain ⟨av, cv, hv, _, _, _, hvb⟩ := ownsRow_form r2
      have hfr : ∀ q, v'.ownBlock = some q → w.heap.size ≤ q := fun q hq => by
        subst hv
        cases av with
        | none => cases hq
        | some b => obtain ⟨g, e, hg, _⟩ := hvb b rfl; subst e; cases hq; exact hg
      refine ⟨v', w', r1, ⟨css ++ dss, by simp [c1, d1], ?_, fun i x hx => ?_⟩, hB⟩
      · rw [List.flatten_append, List.length_append, h1.len, h2.len]
        exact r2
      · have keep : ∀ {cs : List Value} {y : α}, R.rd S w cs y → R.rd (fun k => S k ∧ v'.ownBlock ≠ some k) w' cs y := fun {cs y} hr => R.below (R.mono hr fun q hq hlt => ⟨hq, fun e => by have := hfr q e; omega⟩) hB
        rcases Nat.lt_or_ge i l1.length with q | q
        · rw [List.getElem?_append_left q] at hx
          obtain ⟨cs, e1, e2⟩ := c3 i x hx
          exact ⟨cs, by rw [List.getElem?_append_left (by omega)]; exact e1, keep e2⟩
        · rw [List.getElem?_append_right q] at hx
          obtain ⟨cs, e1, e2⟩ := d3 (i - l1.length) x hx
          exact ⟨cs, by rw [List.getElem?_append_right (by omega), c1]; exact e1, keep e2⟩
theorem step_full {α : Type} {R : Rep α} {P : Program} {T E : TypeId} {bytes : Nat} (he : ElemOf P T E R.size bytes) {ops : Array Oper} {o : Oper} {a : Act} {K : Act → World → Prop} {Q : Exit → Act → World → Prop} {w : World} {C : Prop} (hgd : o.guard = none) (s x : Operand)
    (ho : o.op = .call { callee := .builtin .append, args := #[s, x], argTypes := #[T, T] }) {S : Blk} (as_ : Option Addr) (k : Nat) (l l' : List α) (hs : a.eval s = .slice as_ k k) (hl : Els R S w as_ k k l) (ao : Option Addr) (m c : Nat)
    (hx : a.eval x = .slice ao m c) (hy : Els R S w ao m c l') (hm : 0 < m) (hlen : (k + m) * bytes ≤ 140737488355328) (hmax : k + m ≤ maxLen)
    (h : ∀ v' w', Own R E S w' w.heap.size v' (l ++ l') → Below w.heap.size w w' → K (a.put o.dst v') w') : if Region.wanted o (yielded ops a.tmps) = true then Oper.wp P o a w K Q else C := by
  have hw : Region.wanted o (yielded ops a.tmps) = true := by simp [Region.wanted, hgd]
  rw [if_pos hw]; obtain ⟨v', w', h1, h2, h3⟩ := hl.run_full he o.type hy hm hlen hmax
  unfold Oper.wp
  simp [execOp, ho, resolve, invoke, builtin, hs, hx, h1, Result.andThen]
  exact h v' w' h2 h3
theorem step_el {α : Type} {R : Rep α} {P : Program} {T E : TypeId} {bytes : Nat} (he : ElemOf P T E R.size bytes) {ops : Array Oper} {o : Oper} {a : Act} {K : Act → World → Prop} {Q : Exit → Act → World → Prop} {w : World} {C : Prop} (hgd : o.guard = none) (s x : Operand)
    (ho : o.op = .call { callee := .builtin .append, args := #[s, x], argTypes := #[T, T] }) {S : Blk} (base : Nat) (v : Value) (l l' : List α) (hs : a.eval s = v) (hown : Own R E S w base v l) (ao : Option Addr) (m c : Nat)
    (hx : a.eval x = .slice ao m c) (hy : Els R (fun k => S k ∧ v.ownBlock ≠ some k) w ao m c l') (hlen : (l.length + m) * bytes ≤ 140737488355328) (hmax : l.length + m ≤ maxLen) (hbase : base ≤ w.heap.size)
    (h : ∀ v' w', Own R E S w' base v' (l ++ l') → Below base w w' → Kp v v' w w' → K (a.put o.dst v') w') : if Region.wanted o (yielded ops a.tmps) = true then Oper.wp P o a w K Q else C := by
  have hw : Region.wanted o (yielded ops a.tmps) = true := by simp [Region.wanted, hgd]
  rw [if_pos hw]; obtain ⟨v', w', h1, h2, h3, h4⟩ := hown.run_app he (l' := l') o.type ao m c hy.len hy.nil hy.at_ hlen hmax hbase
  unfold Oper.wp
  simp [execOp, ho, resolve, invoke, builtin, hs, hx, h1, Result.andThen]
  exact h v' w' h2 h3 h4
theorem Own.at1 {α : Type} {R : Rep α} {E : TypeId} {S : Blk} {w : World} {g base : Nat} {cs : List Value} {x : α} (h : w.heap[g]? = some (.cells cs.toArray E (0, 0))) (hb : base ≤ g) (hr : R.rd (fun q => S q ∧ q ≠ g) w cs x) : Own R E S w base (.slice (some ⟨g, 0, none⟩) 1 1) [x] := by
  have hl := R.len hr
  refine ⟨[cs], rfl, ⟨by simp [hl], .inr ⟨g, 1, cs.toArray, rfl, hb, h, Nat.le_refl _, by unfold maxLen; omega, by simp [hl], by simp [← hl]⟩⟩, fun i y hy => ?_⟩
  cases i with
  | zero => simp at hy; subst hy; exact ⟨cs, rfl, R.mono hr fun q hq _ => ⟨hq.1, fun e => hq.2 (by cases e; rfl)⟩⟩
  | succ i => simp at hy
end Go.Proofs.YtjongcdlginjlaaGreatDoor
namespace Go.Proofs.YtjongcdlginjlaaGreatDoor
open Go.RowKit
theorem insU_at (x : Lin) : ∀ (k : Nat) (out : List Lin), k ≤ out.length → (∀ j, j < k → cmpLin (out.getD j default) x < 0) → (k = out.length ∨ 0 < cmpLin (out.getD k default) x) → insU cmpLin x out = out.take k ++ x :: out.drop k
  | 0, [], _, _, _ => rfl
  | 0, y :: out, _, _, h => by
    have h : 0 < cmpLin y x := by rcases h with h | h; simp at h; simpa using h
    unfold insU
    rw [if_neg (by omega), if_neg (by omega)]; rfl
  | k + 1, [], h, _, _ => by simp at h
  | k + 1, y :: out, hk, h, hs => by
    have h0 := h 0 (by omega)
    have h0 : cmpLin y x < 0 := by simpa using h0
    unfold insU
    rw [if_pos h0, insU_at x k out (by simpa using hk) (fun j hj => by have := h (j + 1) (by omega); simpa using this) (by rcases hs with hs | hs; exact .inl (by simpa using hs); exact .inr (by simpa using hs))]
    rfl
theorem insU_same (x : Lin) : ∀ (k : Nat) (out : List Lin), k < out.length → (∀ j, j < k → cmpLin (out.getD j default) x < 0) → cmpLin (out.getD k default) x = 0 → insU cmpLin x out = out
  | 0, y :: out, _, _, h => by
    have h : cmpLin y x = 0 := by simpa using h
    unfold insU
    rw [if_neg (by omega), if_pos h]
  | k + 1, [], h, _, _ => by simp at h
  | 0, [], h, _, _ => by simp at h
  | k + 1, y :: out, hk, h, hs => by
    have h0 := h 0 (by omega)
    have h0 : cmpLin y x < 0 := by simpa using h0
    unfold insU
    rw [if_pos h0, insU_same x k out (by simpa using hk) (fun j hj => by have := h (j + 1) (by omega); simpa using this) (by simpa using hs)]
theorem tidy_next {l : List Lin} {i : Nat} (h : i < l.length) : tidy (l.take (i + 1)) = if dropL (l.getD i default) then tidy (l.take i) else insU cmpLin (l.getD i default) (tidy (l.take i)) := by
  unfold tidy tidyG
  rw [take_one h, List.foldl_append]; rfl
theorem run_slice3 (W : World) (g og m co k : Nat) (hk : k ≤ co) : (Instr.slice 35 (.slice (some ⟨g, og, none⟩) m co) none (some (.int .i64 k)) (some (.int .i64 k))).run Tryz.prog W = .ok (.slice (some ⟨g, og, none⟩) k k) W := by
  have h1 : (Instr.sliceBounds true m co none (some (.int .i64 k)) (some (.int .i64 k))).run Tryz.prog W = .ok (0, k, k) W := by
    simp [Instr.sliceBounds, Instr.sliceBound, asIntOf, hk]
  obtain ⟨i0, z0, hi, hz, hs, hb, hzs⟩ := elemLin.parts
  simp only [Instr.slice, run_underlying Tryz.underlying35, Sem.run_bind, Result.andThen_ok, h1, sizeOf, typeInfo]
  simp [hi, add_mk]
theorem run_slice3n (W : World) : (Instr.slice 35 (.slice none 0 0) none (some (.int .i64 0)) (some (.int .i64 0))).run Tryz.prog W = .ok (.slice none 0 0) W := by
  have h1 : (Instr.sliceBounds true 0 0 none (some (.int .i64 0)) (some (.int .i64 0))).run Tryz.prog W = .ok (0, 0, 0) W := by
    simp [Instr.sliceBounds, Instr.sliceBound, asIntOf]
  obtain ⟨i0, z0, hi, hz, hs, hb, hzs⟩ := elemLin.parts
  simp only [Instr.slice, run_underlying Tryz.underlying35, Sem.run_bind, Result.andThen_ok, h1, sizeOf, typeInfo]
  simp [hi]
set_option maxHeartbeats 4000000 in
theorem ref12_Tidy {S : Blk} (l : List Lin) (a : Option Addr) (n c : Nat) (w : World) (h : Sl RLin S w a n c l) (hn : n ≤ 100) :
    Calls Tryz.prog 32 #[.slice a n c] w fun e w' => (∃ v, e = .returned v ∧ Own RLin 65 (fun q => S q ∧ q < w.heap.size) w' w.heap.size v (tidy l)) ∧ Below w.heap.size w w' := by
  have HS : Hid (Sl RLin (fun q => S q ∧ q < w.heap.size) w a n c l) := Lib.hid (h.mono fun q hq hlt => ⟨hq, hlt⟩)
  have hsm := h.small; have HN := Lib.hid h.len; clear h
  go_enter Tryz.func32, Tryz.ntmps32
  go_wp2_with fail
  go_loopw [3, 4] (fun v iv wr => ∃ (i : Nat) (v0 : Value), i ≤ n ∧ iv = .int .i64 i ∧ v0 = v ∧ Hid (Own RLin 65 (fun q => S q ∧ q < w.heap.size) wr w.heap.size v (tidy (l.take i))) ∧ Hid ((tidy (l.take i)).length = 0 → v = .slice none 0 0) ∧ Below w.heap.size w wr) (fun _ iv _ => n - (intOf iv).toNat)
  case atStart => exact ⟨0, _, Nat.zero_le _, rfl, rfl, Lib.hid (Own.nil _ _ _ _ _), Lib.hid (fun _ => rfl), Below.refl _ _⟩
  case round =>
    obtain ⟨i, v0, hi, rfl, rfl, HO, HZ, hB⟩ := hrel; have hsz := hB.size
    by_cases hlt : i < n
    · obtain ⟨b, off, rfl, hbW, _⟩ := HS.out.form i hlt
      have hil : i < l.length := by rw [HN.out]; exact hlt
      obtain ⟨t, hr, ⟨ax, cx, rfl, hts⟩, e0, e1⟩ := (HS.out.below hB).lin i hlt; have HNx := Lib.hid (tidy_next hil)
      have HTl : Hid ((tidy (l.take i)).length ≤ 100) := Lib.hid (by have := tidy_len (l.take i); rw [List.length_take] at this; omega)
      clear hil
      generalize l.getD i default = x at *
      have HX := Lib.hid hr
      have HD : Hid (dropL x = (x.terms.length == 0 && decide (0 ≤ x.const))) := Lib.hid rfl
      have hxs := hts.small; clear hr hts
      generalize tidy (l.take i) = out at *
      obtain ⟨ao, m, co, hvs, hso⟩ : ∃ ao m co, v0 = .slice ao m co ∧ Sl RLin (fun q => (S q ∧ q < w.heap.size) ∨ w.heap.size ≤ q) wr ao m co out ∧ m = out.length ∧ Els RLin (fun q => S q ∧ q < w.heap.size) wr ao m co out := by
        obtain ⟨ao, co, e, hs⟩ := HO.out.sl; obtain ⟨_, _, e2, hs2⟩ := HO.out.els; rw [e] at e2; rw [Value.slice.injEq] at e2; obtain ⟨rfl, -, rfl⟩ := e2
        exact ⟨ao, _, co, e, hs, rfl, hs2.mono (fun k hk _ => hk.1)⟩
      subst hvs; have HOs := Lib.hid hso.1; have HMl := Lib.hid hso.2.1; have HEl := Lib.hid hso.2.2; clear hso
      have hm : m ≤ 100 := by rw [HMl.out]; exact HTl.out
      by_cases h0 : x.terms.length = 0
      · by_cases hc : 0 ≤ x.const
        · have HF : Hid (tidy (l.take (i + 1)) = out) := Lib.hid (by rw [HNx.out, if_pos (by rw [HD.out, h0, decide_eq_true hc]; rfl)])
          have hl0 : ((x.terms.length : Int) == 0) = true := by rw [h0]; rfl
          go_wp2_with fail
          go_roundw
          case rel => exact ⟨i + 1, _, by omega, by go_num, rfl, Lib.hid (by rw [HF.out]; exact HO.out), Lib.hid (by rw [HF.out]; exact HZ.out), hB⟩
          case measure => simp [intOf]; omega
        · have HF : Hid (tidy (l.take (i + 1)) = insU cmpLin x out) := Lib.hid (by rw [HNx.out, if_neg (by rw [HD.out, decide_eq_false hc]; simp)])
          have hl0 : ((x.terms.length : Int) == 0) = true := by rw [h0]; rfl
          clear HNx HD h0
          generalize hwq : wr = wq at *
          clear hwq
          go_wp2_with fail
          go_loopw [5] (fun kv wr => ∃ k : Nat, k ≤ m ∧ kv = .int .i64 k ∧ Hid (∀ j, j < k → cmpLin (out.getD j default) x < 0) ∧ Below wq.heap.size wq wr) (fun kv _ => m - (intOf kv).toNat)
          case atStart => exact ⟨0, Nat.zero_le _, rfl, Lib.hid (fun j hj => absurd hj (by omega)), Below.refl _ _⟩
          case round =>
            obtain ⟨k, hk, rfl, HT, hBq⟩ := hrel; have x0 := cellB e0 _ hBq; have x1 := cellB e1 _ hBq; have HXq := Lib.hid (RLin.below HX.out hBq); have hzq := hBq.size; have HOq := Lib.hid (HO.out.below hBq); have HEq := Lib.hid (HEl.out.below hBq); have HB2 := Lib.hid (hB.trans (hBq.mono hsz))
            by_cases hkm : k < m
            · obtain ⟨g, og, rfl, hgW, _⟩ := HOs.out.form k hkm
              obtain ⟨t, hry, ⟨ay, cy, rfl, hty⟩, c0, c1⟩ := (HOs.out.below hBq).lin k hkm
              have HTn := Lib.hid (fun q => upto HT.out (p := fun j => cmpLin (out.getD j default) x < 0) q)
              have hkl : k < out.length := by rw [← HMl.out]; exact hkm
              have HSame : Hid (cmpLin (out.getD k default) x = 0 → insU cmpLin x out = out) := Lib.hid (fun q => insU_same x k out hkl HT.out q)
              have HKy : Hid (∀ q : 0 < cmpLin (out.getD k default) x, k = out.length ∨ 0 < cmpLin (out.getD k default) x) := Lib.hid (fun q => .inr q)
              have HC := Lib.hid (fun (t : Later wr) => ref04_Compare (RLin.below hry t.b) (RLin.below HXq.out t.b))
              have HQ := Lib.hid (fun (W : World) (hW : Below wr.heap.size wr W) (t : Later W) => ref04_Equal (RLin.below (RLin.below hry hW) t.b) (RLin.below (RLin.below HXq.out hW) t.b))
              have hEq : eqLin (out.getD k default) x = (cmpLin (out.getD k default) x == 0) := (eqLin_cmp _ _).symm
              rw [hEq] at HQ; clear hry hty hkl hEq; obtain ⟨y, hy⟩ : ∃ y, out.getD k default = y := ⟨_, rfl⟩; have HYe := Lib.hid hy; rw [hy] at HC HQ c0 c1 HSame HKy HTn; clear hy; obtain ⟨r, hr⟩ : ∃ r, cmpLin y x = r := ⟨_, rfl⟩; have HRe := Lib.hid hr; rw [hr] at HC HQ HSame HKy HTn; clear hr
              have hkmz : (k : Int) < (m : Int) := by omega
              have C0 := Later.cell c0; have C1 := Later.cell c1; have X0 := Later.cell x0; have X1 := Later.cell x1
              by_cases hr : r < 0
              · have HTn2 := Lib.hid (HTn.out hr)
                clear HSame HKy HQ HTn
                go_wp2_with fail
                refine wp_region_later (by kernel_rfl) (by kernel_rfl) ?_
                repeat (go_big_quiet_step (first | fail | exact Later.call (HC.out _)))
                refine wpQuiet_nil ?_
                rintro _ ⟨t9, rfl⟩
                have HBz : Hid (Below wr.heap.size wr t9.w) := Lib.hid t9.b
                generalize t9.w = wz at *
                go_wp2_with fail
                go_roundw
                case rel => exact ⟨k + 1, by omega, by go_num, HTn2, hBq.trans (HBz.out.mono hzq)⟩
                case measure => simp [intOf]; omega
              · have HKy2 := Lib.hid (fun q : 0 < r => HKy.out q)
                clear HTn HKy
                go_wp2_with fail
                refine wp_region_later (by kernel_rfl) (by kernel_rfl) ?_
                repeat (go_big_quiet_step (first | fail | exact Later.call (HC.out _)))
                refine wpQuiet_nil ?_
                rintro _ ⟨t9, rfl⟩
                have HBz : Hid (Below wr.heap.size wr t9.w) := Lib.hid t9.b
                generalize t9.w = wz at *
                have c0 := cellB c0 _ HBz.out; have c1 := cellB c1 _ HBz.out; have x0 := cellB x0 _ HBz.out; have x1 := cellB x1 _ HBz.out; have HQz := Lib.hid (HQ.out wz HBz.out); clear C0 C1 X0 X1 HC HQ; have C0 := Later.cell c0; have C1 := Later.cell c1; have X0 := Later.cell x0; have X1 := Later.cell x1
                by_cases h00 : r = 0
                · have HFs : Hid (tidy (l.take (i + 1)) = out) := Lib.hid (by rw [HF.out, HSame.out h00])
                  rw [show (r == 0) = true by simpa using h00] at HQz
                  have h00' : r = 0 := h00
                  go_wp2_with fail
                  refine wp_region_later (by kernel_rfl) (by kernel_rfl) ?_
                  repeat (go_big_quiet_step (first | fail | exact Later.call (HQz.out _)))
                  refine wpQuiet_nil ?_
                  rintro _ ⟨t9, rfl⟩
                  have HBy : Hid (Below wz.heap.size wz t9.w) := Lib.hid t9.b
                  generalize t9.w = wy at *
                  go_wp2_with fail
                  have HBf := Lib.hid (HBz.out.trans (HBy.out.mono HBz.out.size))
                  go_roundw
                  case rel => exact ⟨i + 1, _, by omega, by go_num, rfl, Lib.hid (by rw [HFs.out]; exact HOq.out.below HBf.out), Lib.hid (by rw [HFs.out]; exact HZ.out), HB2.out.trans (HBf.out.mono HB2.out.size)⟩
                  case measure => simp [intOf]; omega
                · have hr0 : 0 < r := by omega
                  rw [show (r == 0) = false by simpa using h00] at HQz
                  have HWhy : Hid (k = out.length ∨ 0 < cmpLin (out.getD k default) x) := Lib.hid (.inr (by rw [HYe.out, HRe.out]; exact hr0))
                  go_wp2_with fail
                  refine wp_region_later (by kernel_rfl) (by kernel_rfl) ?_
                  repeat (go_big_quiet_step (first | fail | exact Later.call (HQz.out _)))
                  refine wpQuiet_nil ?_
                  rintro _ ⟨t9, rfl⟩
                  have HBy : Hid (Below wz.heap.size wz t9.w) := Lib.hid t9.b
                  generalize t9.w = wi at *
                  have HBf := Lib.hid (HBz.out.trans (HBy.out.mono HBz.out.size)); have HXi := Lib.hid (RLin.below HXq.out HBf.out); have HEi := Lib.hid (HEq.out.below HBf.out); have x0 := cellB x0 _ HBy.out; have x1 := cellB x1 _ HBy.out; have HBi := Lib.hid (HB2.out.trans (HBf.out.mono HB2.out.size)); have hzi := HBi.out.size
                  have hkc : ¬co = k := by have := HEi.out.cap; omega
                  have HDr := Lib.hid (HEi.out.drop k (by omega))
                  clear C0 C1 X0 X1 HQz HSame
                  have hs3 := fun W : World => run_slice3 W g og m co k (by have := HEi.out.cap; omega)
                  have HFk : Hid (tidy (l.take (i + 1)) = out.take k ++ x :: out.drop k) := Lib.hid (by rw [HF.out]; exact insU_at x k out (by rw [← HMl.out]; omega) HT.out HWhy.out)
                  go_wp2_with fail
                  go_region_held3 (fun w' => w'.cell? ⟨b, off + i * 2, none⟩ = some (.int .i64 x.const) ∧ w'.cell? ⟨b, off + i * 2 + 1, none⟩ = some (.slice ax x.terms.length cx)) (first | exact ⟨x0, x1⟩ | go_keep) (first
                    | (refine step_el elemLin rfl (.tmp 68) (.tmp 71) rfl wi.heap.size _ [x] (out.drop k) rfl (S := fun q => S q ∧ q < w.heap.size) ?a1 _ _ _ rfl ?a2 ?a3 ?a4 ?a5 ?_
                       case a1 => exact Own.at1 (cs := [.int .i64 x.const, .slice ax x.terms.length cx]) (by (simp only [drew_heap, alloc_heap, Array.getElem?_push, Array.size_push]; simp)) (by simp <;> omega) (RLin.below (RLin.mono HXi.out (fun q hq hlt => ⟨hq, by have := hq.2; have := HBi.out.size; simp; omega⟩)) (by go_grown))
                       case a2 => exact ((HDr.out.below (by go_grown)).mono (fun q hq hlt => ⟨hq, fun e => by have h2 := hq.2; have h3 := HBi.out.size; have h4 : wi.heap.size = q := Option.some.inj e; omega⟩))
                       case a3 => simp <;> omega
                       case a4 => unfold maxLen; simp <;> omega
                       case a5 => simp <;> omega
                       intro v4 w4 hown4 hb4 hk4
                       obtain ⟨a4, c4, rfl, hs4⟩ := hown4.els
                       have hB4 : Below wi.heap.size wi w4 := Below.trans (by go_grown) hb4
                       have x0 := cellB x0 _ hB4
                       have x1 := cellB x1 _ hB4)
                    | (refine step_full elemLin rfl (.tmp 63) (.tmp 72) rfl _ k (out.take k) ([x] ++ out.drop k) rfl ((HEi.out.full k (by omega)).below (by first | exact hB4 | exact hB4.drew)) _ _ _ rfl ((hs4.mono (fun q hq _ => hq.1)).below (by first | exact Below.refl _ _ | exact (Below.refl _ _).drew)) (by simp) (by have := HMl.out; simp; omega) (by have := HMl.out; unfold maxLen; simp; omega) ?_
                       intro v5 w5 hown5 hb5
                       have hB5 : Below wi.heap.size wi w5 := hB4.trans (hb5.mono (by have := hB4.size; simp <;> omega))
                       have x0 := cellB x0 _ hb5; have x1 := cellB x1 _ hb5
                       obtain ⟨a5, m5, c5, rfl⟩ := hown5.shape))
                  all_goals go_wp2_with fail
                  go_roundw
                  case rel => exact ⟨i + 1, _, by omega, by go_num, rfl, Lib.hid (by rw [HFk.out]; exact hown5.lower (by have h1 := hB4.size; have h2 := HBi.out.size; omega)), Lib.hid (fun h => absurd h (by rw [HFk.out]; simp)), HBi.out.trans (hB5.mono HBi.out.size)⟩
                  case measure => simp [intOf]; omega
            · have HKE : Hid (k = m) := Lib.hid (by omega)
              have HWhy : Hid (k = out.length ∨ 0 < cmpLin (out.getD k default) x) := Lib.hid (.inl (by rw [HKE.out]; exact HMl.out))
              have hkmz : ¬ ((k : Int) < (m : Int)) := by omega
              go_wp2_with fail
              refine wp_region_later (by kernel_rfl) (by kernel_rfl) ?_
              repeat (go_big_quiet_step (fail))
              refine wpQuiet_nil ?_
              rintro _ ⟨t9, rfl⟩
              have HBz0 : Hid (Below wr.heap.size wr t9.w) := Lib.hid t9.b
              generalize t9.w = wz at *
              go_wp2_with fail
              refine wp_region_later (by kernel_rfl) (by kernel_rfl) ?_
              repeat (go_big_quiet_step (fail))
              refine wpQuiet_nil ?_
              rintro _ ⟨t9, rfl⟩
              have HBz : Hid (Below wr.heap.size wr t9.w) := Lib.hid (HBz0.out.trans (t9.b.mono HBz0.out.size))
              generalize t9.w = wi at *
              have x0 := cellB x0 _ HBz.out; have x1 := cellB x1 _ HBz.out; have HBi := Lib.hid (HB2.out.trans (HBz.out.mono HB2.out.size)); have HXi := Lib.hid (RLin.below HXq.out HBz.out); have HEi := Lib.hid (HEq.out.below HBz.out); have hzi := HBi.out.size; clear HOq HX HEl HB2 HXq HEq
              rcases ao with _ | ad
              · have hco : co = 0 := HEi.out.nil rfl
                have hm0 : m = 0 := by have := HEi.out.cap; omega
                have hk0 : k = 0 := by have := HKE.out; omega
                clear HKE; subst hco; subst hm0; subst hk0
                have HDr : Hid (Els RLin (fun q => S q ∧ q < w.heap.size) wi none 0 0 (out.drop 0)) := Lib.hid (by have h0 : out = [] := List.eq_nil_of_length_eq_zero HEi.out.len; rw [h0]; exact Els.none (by unfold maxLen; omega) (fun _ => rfl))
                have hs3 := fun W : World => run_slice3n W
                have HFk : Hid (tidy (l.take (i + 1)) = out.take 0 ++ x :: out.drop 0) := Lib.hid (by rw [HF.out]; exact insU_at x 0 out (by rw [← HMl.out]; omega) HT.out HWhy.out)
                go_wp2_with fail
                go_region_held3 (fun w' => w'.cell? ⟨b, off + i * 2, none⟩ = some (.int .i64 x.const) ∧ w'.cell? ⟨b, off + i * 2 + 1, none⟩ = some (.slice ax x.terms.length cx)) (first | exact ⟨x0, x1⟩ | go_keep) (first
                  | (refine step_el elemLin rfl (.tmp 68) (.tmp 71) rfl wi.heap.size _ [x] (out.drop 0) rfl (S := fun q => S q ∧ q < w.heap.size) ?a1 _ _ _ rfl ?a2 ?a3 ?a4 ?a5 ?_
                     case a1 => exact Own.at1 (cs := [.int .i64 x.const, .slice ax x.terms.length cx]) (by (simp only [drew_heap, alloc_heap, Array.getElem?_push, Array.size_push]; simp)) (by simp <;> omega) (RLin.below (RLin.mono HXi.out (fun q hq hlt => ⟨hq, by have := hq.2; have := HBi.out.size; simp; omega⟩)) (by go_grown))
                     case a2 => exact ((HDr.out.below (by go_grown)).mono (fun q hq hlt => ⟨hq, fun e => by have h2 := hq.2; have h3 := HBi.out.size; have h4 : wi.heap.size = q := Option.some.inj e; omega⟩))
                     case a3 => simp <;> omega
                     case a4 => unfold maxLen; simp <;> omega
                     case a5 => simp <;> omega
                     intro v4 w4 hown4 hb4 hk4
                     obtain ⟨a4, c4, rfl, hs4⟩ := hown4.els
                     have hB4 : Below wi.heap.size wi w4 := Below.trans (by go_grown) hb4
                     have x0 := cellB x0 _ hB4
                     have x1 := cellB x1 _ hB4)
                  | (refine step_full elemLin rfl (.tmp 63) (.tmp 72) rfl _ 0 (out.take 0) ([x] ++ out.drop 0) rfl ((HEi.out.full 0 (by omega)).below (by first | exact hB4 | exact hB4.drew)) _ _ _ rfl ((hs4.mono (fun q hq _ => hq.1)).below (by first | exact Below.refl _ _ | exact (Below.refl _ _).drew)) (by simp) (by have := HMl.out; simp; omega) (by have := HMl.out; unfold maxLen; simp; omega) ?_
                     intro v5 w5 hown5 hb5
                     have hB5 : Below wi.heap.size wi w5 := hB4.trans (hb5.mono (by have := hB4.size; simp <;> omega))
                     have x0 := cellB x0 _ hb5; have x1 := cellB x1 _ hb5
                     obtain ⟨a5, m5, c5, rfl⟩ := hown5.shape))
                all_goals go_wp2_with fail
                go_roundw
                case rel => exact ⟨i + 1, _, by omega, by go_num, rfl, Lib.hid (by rw [HFk.out]; exact hown5.lower (by have h1 := hB4.size; have h2 := HBi.out.size; omega)), Lib.hid (fun h => absurd h (by rw [HFk.out]; simp)), HBi.out.trans (hB5.mono HBi.out.size)⟩
                case measure => simp [intOf]; omega
              · obtain ⟨g, og, rfl⟩ : ∃ g og, ad = ⟨g, og, none⟩ := by
                  rcases Nat.eq_zero_or_pos m with h | h
                  · have := HZ.out (by rw [← HMl.out]; exact h)
                    cases this
                  · obtain ⟨g, og, e, _⟩ := HOs.out.form 0 h
                    cases e
                    exact ⟨_, _, rfl⟩
                have HDa : Hid (∀ a, a ≠ none → Els RLin (fun q => S q ∧ q < w.heap.size) wi a (m - k) (co - k) (out.drop k)) := Lib.hid (fun a ha => by have h1 := HEi.out.max; rw [HKE.out, Nat.sub_self, List.drop_of_length_le (by rw [HMl.out]; omega)]; exact Els.none (by omega) (fun e => absurd e ha))
                have hs3 := fun W : World => run_slice3 W g og m co k (by have := HEi.out.cap; omega)
                clear hkmz
                by_cases hkc : co = k
                · subst hkc
                  have HDr : Hid (Els RLin (fun q => S q ∧ q < w.heap.size) wi (some ⟨g, og, none⟩) (m - co) 0 (out.drop co)) := Lib.hid (by have h := HDa.out (some ⟨g, og, none⟩) (by simp); rwa [Nat.sub_self] at h)
                  have HFk : Hid (tidy (l.take (i + 1)) = out.take co ++ x :: out.drop co) := Lib.hid (by rw [HF.out]; exact insU_at x co out (by rw [← HMl.out]; omega) HT.out HWhy.out)
                  go_wp2_with fail
                  go_region_held3 (fun w' => w'.cell? ⟨b, off + i * 2, none⟩ = some (.int .i64 x.const) ∧ w'.cell? ⟨b, off + i * 2 + 1, none⟩ = some (.slice ax x.terms.length cx)) (first | exact ⟨x0, x1⟩ | go_keep) (first
                    | (refine step_el elemLin rfl (.tmp 68) (.tmp 71) rfl wi.heap.size _ [x] (out.drop co) rfl (S := fun q => S q ∧ q < w.heap.size) ?a1 _ _ _ rfl ?a2 ?a3 ?a4 ?a5 ?_
                       case a1 => exact Own.at1 (cs := [.int .i64 x.const, .slice ax x.terms.length cx]) (by (simp only [drew_heap, alloc_heap, Array.getElem?_push, Array.size_push]; simp)) (by simp <;> omega) (RLin.below (RLin.mono HXi.out (fun q hq hlt => ⟨hq, by have := hq.2; have := HBi.out.size; simp; omega⟩)) (by go_grown))
                       case a2 => exact ((HDr.out.below (by go_grown)).mono (fun q hq hlt => ⟨hq, fun e => by have h2 := hq.2; have h3 := HBi.out.size; have h4 : wi.heap.size = q := Option.some.inj e; omega⟩))
                       case a3 => simp <;> omega
                       case a4 => unfold maxLen; simp <;> omega
                       case a5 => simp <;> omega
                       intro v4 w4 hown4 hb4 hk4
                       obtain ⟨a4, c4, rfl, hs4⟩ := hown4.els
                       have hB4 : Below wi.heap.size wi w4 := Below.trans (by go_grown) hb4
                       have x0 := cellB x0 _ hB4
                       have x1 := cellB x1 _ hB4)
                    | (refine step_full elemLin rfl (.tmp 63) (.tmp 72) rfl _ co (out.take co) ([x] ++ out.drop co) rfl ((HEi.out.full co (by omega)).below (by first | exact hB4 | exact hB4.drew)) _ _ _ rfl ((hs4.mono (fun q hq _ => hq.1)).below (by first | exact Below.refl _ _ | exact (Below.refl _ _).drew)) (by simp) (by have := HMl.out; simp; omega) (by have := HMl.out; unfold maxLen; simp; omega) ?_
                       intro v5 w5 hown5 hb5
                       have hB5 : Below wi.heap.size wi w5 := hB4.trans (hb5.mono (by have := hB4.size; simp <;> omega))
                       have x0 := cellB x0 _ hb5; have x1 := cellB x1 _ hb5
                       obtain ⟨a5, m5, c5, rfl⟩ := hown5.shape))
                  all_goals go_wp2_with fail
                  go_roundw
                  case rel => exact ⟨i + 1, _, by omega, by go_num, rfl, Lib.hid (by rw [HFk.out]; exact hown5.lower (by have h1 := hB4.size; have h2 := HBi.out.size; omega)), Lib.hid (fun h => absurd h (by rw [HFk.out]; simp)), HBi.out.trans (hB5.mono HBi.out.size)⟩
                  case measure => simp [intOf]; omega
                · have HDr := Lib.hid (HDa.out (some ⟨g, og + k * 2, none⟩) (by simp))
                  have HFk : Hid (tidy (l.take (i + 1)) = out.take k ++ x :: out.drop k) := Lib.hid (by rw [HF.out]; exact insU_at x k out (by rw [← HMl.out]; omega) HT.out HWhy.out)
                  go_wp2_with fail
                  go_region_held3 (fun w' => w'.cell? ⟨b, off + i * 2, none⟩ = some (.int .i64 x.const) ∧ w'.cell? ⟨b, off + i * 2 + 1, none⟩ = some (.slice ax x.terms.length cx)) (first | exact ⟨x0, x1⟩ | go_keep) (first
                    | (refine step_el elemLin rfl (.tmp 68) (.tmp 71) rfl wi.heap.size _ [x] (out.drop k) rfl (S := fun q => S q ∧ q < w.heap.size) ?a1 _ _ _ rfl ?a2 ?a3 ?a4 ?a5 ?_
                       case a1 => exact Own.at1 (cs := [.int .i64 x.const, .slice ax x.terms.length cx]) (by (simp only [drew_heap, alloc_heap, Array.getElem?_push, Array.size_push]; simp)) (by simp <;> omega) (RLin.below (RLin.mono HXi.out (fun q hq hlt => ⟨hq, by have := hq.2; have := HBi.out.size; simp; omega⟩)) (by go_grown))
                       case a2 => exact ((HDr.out.below (by go_grown)).mono (fun q hq hlt => ⟨hq, fun e => by have h2 := hq.2; have h3 := HBi.out.size; have h4 : wi.heap.size = q := Option.some.inj e; omega⟩))
                       case a3 => simp <;> omega
                       case a4 => unfold maxLen; simp <;> omega
                       case a5 => simp <;> omega
                       intro v4 w4 hown4 hb4 hk4
                       obtain ⟨a4, c4, rfl, hs4⟩ := hown4.els
                       have hB4 : Below wi.heap.size wi w4 := Below.trans (by go_grown) hb4
                       have x0 := cellB x0 _ hB4
                       have x1 := cellB x1 _ hB4)
                    | (refine step_full elemLin rfl (.tmp 63) (.tmp 72) rfl _ k (out.take k) ([x] ++ out.drop k) rfl ((HEi.out.full k (by omega)).below (by first | exact hB4 | exact hB4.drew)) _ _ _ rfl ((hs4.mono (fun q hq _ => hq.1)).below (by first | exact Below.refl _ _ | exact (Below.refl _ _).drew)) (by simp) (by have := HMl.out; simp; omega) (by have := HMl.out; unfold maxLen; simp; omega) ?_
                       intro v5 w5 hown5 hb5
                       have hB5 : Below wi.heap.size wi w5 := hB4.trans (hb5.mono (by have := hB4.size; simp <;> omega))
                       have x0 := cellB x0 _ hb5; have x1 := cellB x1 _ hb5
                       obtain ⟨a5, m5, c5, rfl⟩ := hown5.shape))
                  all_goals go_wp2_with fail
                  go_roundw
                  case rel => exact ⟨i + 1, _, by omega, by go_num, rfl, Lib.hid (by rw [HFk.out]; exact hown5.lower (by have h1 := hB4.size; have h2 := HBi.out.size; omega)), Lib.hid (fun h => absurd h (by rw [HFk.out]; simp)), HBi.out.trans (hB5.mono HBi.out.size)⟩
                  case measure => simp [intOf]; omega
      · have HF : Hid (tidy (l.take (i + 1)) = insU cmpLin x out) := Lib.hid (by rw [HNx.out, if_neg (by rw [HD.out]; simp [h0])])
        have hl0 : ((x.terms.length : Int) == 0) = false := beq_eq_false_iff_ne.2 (by omega)
        clear HNx HD h0
        generalize hwq : wr = wq at *
        clear hwq
        go_wp2_with fail
        go_loopw [5] (fun kv wr => ∃ k : Nat, k ≤ m ∧ kv = .int .i64 k ∧ Hid (∀ j, j < k → cmpLin (out.getD j default) x < 0) ∧ Below wq.heap.size wq wr) (fun kv _ => m - (intOf kv).toNat)
        case atStart => exact ⟨0, Nat.zero_le _, rfl, Lib.hid (fun j hj => absurd hj (by omega)), Below.refl _ _⟩
        case round =>
          obtain ⟨k, hk, rfl, HT, hBq⟩ := hrel; have x0 := cellB e0 _ hBq; have x1 := cellB e1 _ hBq; have HXq := Lib.hid (RLin.below HX.out hBq); have hzq := hBq.size; have HOq := Lib.hid (HO.out.below hBq); have HEq := Lib.hid (HEl.out.below hBq); have HB2 := Lib.hid (hB.trans (hBq.mono hsz))
          by_cases hkm : k < m
          · obtain ⟨g, og, rfl, hgW, _⟩ := HOs.out.form k hkm
            obtain ⟨t, hry, ⟨ay, cy, rfl, hty⟩, c0, c1⟩ := (HOs.out.below hBq).lin k hkm
            have HTn := Lib.hid (fun q => upto HT.out (p := fun j => cmpLin (out.getD j default) x < 0) q)
            have hkl : k < out.length := by rw [← HMl.out]; exact hkm
            have HSame : Hid (cmpLin (out.getD k default) x = 0 → insU cmpLin x out = out) := Lib.hid (fun q => insU_same x k out hkl HT.out q)
            have HKy : Hid (∀ q : 0 < cmpLin (out.getD k default) x, k = out.length ∨ 0 < cmpLin (out.getD k default) x) := Lib.hid (fun q => .inr q)
            have HC := Lib.hid (fun (t : Later wr) => ref04_Compare (RLin.below hry t.b) (RLin.below HXq.out t.b))
            have HQ := Lib.hid (fun (W : World) (hW : Below wr.heap.size wr W) (t : Later W) => ref04_Equal (RLin.below (RLin.below hry hW) t.b) (RLin.below (RLin.below HXq.out hW) t.b))
            have hEq : eqLin (out.getD k default) x = (cmpLin (out.getD k default) x == 0) := (eqLin_cmp _ _).symm
            rw [hEq] at HQ; clear hry hty hkl hEq; obtain ⟨y, hy⟩ : ∃ y, out.getD k default = y := ⟨_, rfl⟩; have HYe := Lib.hid hy; rw [hy] at HC HQ c0 c1 HSame HKy HTn; clear hy; obtain ⟨r, hr⟩ : ∃ r, cmpLin y x = r := ⟨_, rfl⟩; have HRe := Lib.hid hr; rw [hr] at HC HQ HSame HKy HTn; clear hr
            have hkmz : (k : Int) < (m : Int) := by omega
            have C0 := Later.cell c0; have C1 := Later.cell c1; have X0 := Later.cell x0; have X1 := Later.cell x1
            by_cases hr : r < 0
            · have HTn2 := Lib.hid (HTn.out hr)
              clear HSame HKy HQ HTn
              go_wp2_with fail
              refine wp_region_later (by kernel_rfl) (by kernel_rfl) ?_
              repeat (go_big_quiet_step (first | fail | exact Later.call (HC.out _)))
              refine wpQuiet_nil ?_
              rintro _ ⟨t9, rfl⟩
              have HBz : Hid (Below wr.heap.size wr t9.w) := Lib.hid t9.b
              generalize t9.w = wz at *
              go_wp2_with fail
              go_roundw
              case rel => exact ⟨k + 1, by omega, by go_num, HTn2, hBq.trans (HBz.out.mono hzq)⟩
              case measure => simp [intOf]; omega
            · have HKy2 := Lib.hid (fun q : 0 < r => HKy.out q)
              clear HTn HKy
              go_wp2_with fail
              refine wp_region_later (by kernel_rfl) (by kernel_rfl) ?_
              repeat (go_big_quiet_step (first | fail | exact Later.call (HC.out _)))
              refine wpQuiet_nil ?_
              rintro _ ⟨t9, rfl⟩
              have HBz : Hid (Below wr.heap.size wr t9.w) := Lib.hid t9.b
              generalize t9.w = wz at *
              have c0 := cellB c0 _ HBz.out; have c1 := cellB c1 _ HBz.out; have x0 := cellB x0 _ HBz.out; have x1 := cellB x1 _ HBz.out; have HQz := Lib.hid (HQ.out wz HBz.out); clear C0 C1 X0 X1 HC HQ; have C0 := Later.cell c0; have C1 := Later.cell c1; have X0 := Later.cell x0; have X1 := Later.cell x1
              by_cases h00 : r = 0
              · have HFs : Hid (tidy (l.take (i + 1)) = out) := Lib.hid (by rw [HF.out, HSame.out h00])
                rw [show (r == 0) = true by simpa using h00] at HQz
                have h00' : r = 0 := h00
                go_wp2_with fail
                refine wp_region_later (by kernel_rfl) (by kernel_rfl) ?_
                repeat (go_big_quiet_step (first | fail | exact Later.call (HQz.out _)))
                refine wpQuiet_nil ?_
                rintro _ ⟨t9, rfl⟩
                have HBy : Hid (Below wz.heap.size wz t9.w) := Lib.hid t9.b
                generalize t9.w = wy at *
                go_wp2_with fail
                have HBf := Lib.hid (HBz.out.trans (HBy.out.mono HBz.out.size))
                go_roundw
                case rel => exact ⟨i + 1, _, by omega, by go_num, rfl, Lib.hid (by rw [HFs.out]; exact HOq.out.below HBf.out), Lib.hid (by rw [HFs.out]; exact HZ.out), HB2.out.trans (HBf.out.mono HB2.out.size)⟩
                case measure => simp [intOf]; omega
              · have hr0 : 0 < r := by omega
                rw [show (r == 0) = false by simpa using h00] at HQz
                have HWhy : Hid (k = out.length ∨ 0 < cmpLin (out.getD k default) x) := Lib.hid (.inr (by rw [HYe.out, HRe.out]; exact hr0))
                go_wp2_with fail
                refine wp_region_later (by kernel_rfl) (by kernel_rfl) ?_
                repeat (go_big_quiet_step (first | fail | exact Later.call (HQz.out _)))
                refine wpQuiet_nil ?_
                rintro _ ⟨t9, rfl⟩
                have HBy : Hid (Below wz.heap.size wz t9.w) := Lib.hid t9.b
                generalize t9.w = wi at *
                have HBf := Lib.hid (HBz.out.trans (HBy.out.mono HBz.out.size)); have HXi := Lib.hid (RLin.below HXq.out HBf.out); have HEi := Lib.hid (HEq.out.below HBf.out); have x0 := cellB x0 _ HBy.out; have x1 := cellB x1 _ HBy.out; have HBi := Lib.hid (HB2.out.trans (HBf.out.mono HB2.out.size)); have hzi := HBi.out.size
                have hkc : ¬co = k := by have := HEi.out.cap; omega
                have HDr := Lib.hid (HEi.out.drop k (by omega))
                clear C0 C1 X0 X1 HQz HSame
                have hs3 := fun W : World => run_slice3 W g og m co k (by have := HEi.out.cap; omega)
                have HFk : Hid (tidy (l.take (i + 1)) = out.take k ++ x :: out.drop k) := Lib.hid (by rw [HF.out]; exact insU_at x k out (by rw [← HMl.out]; omega) HT.out HWhy.out)
                go_wp2_with fail
                go_region_held3 (fun w' => w'.cell? ⟨b, off + i * 2, none⟩ = some (.int .i64 x.const) ∧ w'.cell? ⟨b, off + i * 2 + 1, none⟩ = some (.slice ax x.terms.length cx)) (first | exact ⟨x0, x1⟩ | go_keep) (first
                  | (refine step_el elemLin rfl (.tmp 68) (.tmp 71) rfl wi.heap.size _ [x] (out.drop k) rfl (S := fun q => S q ∧ q < w.heap.size) ?a1 _ _ _ rfl ?a2 ?a3 ?a4 ?a5 ?_
                     case a1 => exact Own.at1 (cs := [.int .i64 x.const, .slice ax x.terms.length cx]) (by (simp only [drew_heap, alloc_heap, Array.getElem?_push, Array.size_push]; simp)) (by simp <;> omega) (RLin.below (RLin.mono HXi.out (fun q hq hlt => ⟨hq, by have := hq.2; have := HBi.out.size; simp; omega⟩)) (by go_grown))
                     case a2 => exact ((HDr.out.below (by go_grown)).mono (fun q hq hlt => ⟨hq, fun e => by have h2 := hq.2; have h3 := HBi.out.size; have h4 : wi.heap.size = q := Option.some.inj e; omega⟩))
                     case a3 => simp <;> omega
                     case a4 => unfold maxLen; simp <;> omega
                     case a5 => simp <;> omega
                     intro v4 w4 hown4 hb4 hk4
                     obtain ⟨a4, c4, rfl, hs4⟩ := hown4.els
                     have hB4 : Below wi.heap.size wi w4 := Below.trans (by go_grown) hb4
                     have x0 := cellB x0 _ hB4
                     have x1 := cellB x1 _ hB4)
                  | (refine step_full elemLin rfl (.tmp 63) (.tmp 72) rfl _ k (out.take k) ([x] ++ out.drop k) rfl ((HEi.out.full k (by omega)).below (by first | exact hB4 | exact hB4.drew)) _ _ _ rfl ((hs4.mono (fun q hq _ => hq.1)).below (by first | exact Below.refl _ _ | exact (Below.refl _ _).drew)) (by simp) (by have := HMl.out; simp; omega) (by have := HMl.out; unfold maxLen; simp; omega) ?_
                     intro v5 w5 hown5 hb5
                     have hB5 : Below wi.heap.size wi w5 := hB4.trans (hb5.mono (by have := hB4.size; simp <;> omega))
                     have x0 := cellB x0 _ hb5; have x1 := cellB x1 _ hb5
                     obtain ⟨a5, m5, c5, rfl⟩ := hown5.shape))
                all_goals go_wp2_with fail
                go_roundw
                case rel => exact ⟨i + 1, _, by omega, by go_num, rfl, Lib.hid (by rw [HFk.out]; exact hown5.lower (by have h1 := hB4.size; have h2 := HBi.out.size; omega)), Lib.hid (fun h => absurd h (by rw [HFk.out]; simp)), HBi.out.trans (hB5.mono HBi.out.size)⟩
                case measure => simp [intOf]; omega
          · have HKE : Hid (k = m) := Lib.hid (by omega)
            have HWhy : Hid (k = out.length ∨ 0 < cmpLin (out.getD k default) x) := Lib.hid (.inl (by rw [HKE.out]; exact HMl.out))
            have hkmz : ¬ ((k : Int) < (m : Int)) := by omega
            go_wp2_with fail
            refine wp_region_later (by kernel_rfl) (by kernel_rfl) ?_
            repeat (go_big_quiet_step (fail))
            refine wpQuiet_nil ?_
            rintro _ ⟨t9, rfl⟩
            have HBz0 : Hid (Below wr.heap.size wr t9.w) := Lib.hid t9.b
            generalize t9.w = wz at *
            go_wp2_with fail
            refine wp_region_later (by kernel_rfl) (by kernel_rfl) ?_
            repeat (go_big_quiet_step (fail))
            refine wpQuiet_nil ?_
            rintro _ ⟨t9, rfl⟩
            have HBz : Hid (Below wr.heap.size wr t9.w) := Lib.hid (HBz0.out.trans (t9.b.mono HBz0.out.size))
            generalize t9.w = wi at *
            have x0 := cellB x0 _ HBz.out; have x1 := cellB x1 _ HBz.out; have HBi := Lib.hid (HB2.out.trans (HBz.out.mono HB2.out.size)); have HXi := Lib.hid (RLin.below HXq.out HBz.out); have HEi := Lib.hid (HEq.out.below HBz.out); have hzi := HBi.out.size; clear HOq HX HEl HB2 HXq HEq
            rcases ao with _ | ad
            · have hco : co = 0 := HEi.out.nil rfl
              have hm0 : m = 0 := by have := HEi.out.cap; omega
              have hk0 : k = 0 := by have := HKE.out; omega
              clear HKE; subst hco; subst hm0; subst hk0
              have HDr : Hid (Els RLin (fun q => S q ∧ q < w.heap.size) wi none 0 0 (out.drop 0)) := Lib.hid (by have h0 : out = [] := List.eq_nil_of_length_eq_zero HEi.out.len; rw [h0]; exact Els.none (by unfold maxLen; omega) (fun _ => rfl))
              have hs3 := fun W : World => run_slice3n W
              have HFk : Hid (tidy (l.take (i + 1)) = out.take 0 ++ x :: out.drop 0) := Lib.hid (by rw [HF.out]; exact insU_at x 0 out (by rw [← HMl.out]; omega) HT.out HWhy.out)
              go_wp2_with fail
              go_region_held3 (fun w' => w'.cell? ⟨b, off + i * 2, none⟩ = some (.int .i64 x.const) ∧ w'.cell? ⟨b, off + i * 2 + 1, none⟩ = some (.slice ax x.terms.length cx)) (first | exact ⟨x0, x1⟩ | go_keep) (first
                | (refine step_el elemLin rfl (.tmp 68) (.tmp 71) rfl wi.heap.size _ [x] (out.drop 0) rfl (S := fun q => S q ∧ q < w.heap.size) ?a1 _ _ _ rfl ?a2 ?a3 ?a4 ?a5 ?_
                   case a1 => exact Own.at1 (cs := [.int .i64 x.const, .slice ax x.terms.length cx]) (by (simp only [drew_heap, alloc_heap, Array.getElem?_push, Array.size_push]; simp)) (by simp <;> omega) (RLin.below (RLin.mono HXi.out (fun q hq hlt => ⟨hq, by have := hq.2; have := HBi.out.size; simp; omega⟩)) (by go_grown))
                   case a2 => exact ((HDr.out.below (by go_grown)).mono (fun q hq hlt => ⟨hq, fun e => by have h2 := hq.2; have h3 := HBi.out.size; have h4 : wi.heap.size = q := Option.some.inj e; omega⟩))
                   case a3 => simp <;> omega
                   case a4 => unfold maxLen; simp <;> omega
                   case a5 => simp <;> omega
                   intro v4 w4 hown4 hb4 hk4
                   obtain ⟨a4, c4, rfl, hs4⟩ := hown4.els
                   have hB4 : Below wi.heap.size wi w4 := Below.trans (by go_grown) hb4
                   have x0 := cellB x0 _ hB4
                   have x1 := cellB x1 _ hB4)
                | (refine step_full elemLin rfl (.tmp 63) (.tmp 72) rfl _ 0 (out.take 0) ([x] ++ out.drop 0) rfl ((HEi.out.full 0 (by omega)).below (by first | exact hB4 | exact hB4.drew)) _ _ _ rfl ((hs4.mono (fun q hq _ => hq.1)).below (by first | exact Below.refl _ _ | exact (Below.refl _ _).drew)) (by simp) (by have := HMl.out; simp; omega) (by have := HMl.out; unfold maxLen; simp; omega) ?_
                   intro v5 w5 hown5 hb5
                   have hB5 : Below wi.heap.size wi w5 := hB4.trans (hb5.mono (by have := hB4.size; simp <;> omega))
                   have x0 := cellB x0 _ hb5; have x1 := cellB x1 _ hb5
                   obtain ⟨a5, m5, c5, rfl⟩ := hown5.shape))
              all_goals go_wp2_with fail
              go_roundw
              case rel => exact ⟨i + 1, _, by omega, by go_num, rfl, Lib.hid (by rw [HFk.out]; exact hown5.lower (by have h1 := hB4.size; have h2 := HBi.out.size; omega)), Lib.hid (fun h => absurd h (by rw [HFk.out]; simp)), HBi.out.trans (hB5.mono HBi.out.size)⟩
              case measure => simp [intOf]; omega
            · obtain ⟨g, og, rfl⟩ : ∃ g og, ad = ⟨g, og, none⟩ := by
                rcases Nat.eq_zero_or_pos m with h | h
                · have := HZ.out (by rw [← HMl.out]; exact h)
                  cases this
                · obtain ⟨g, og, e, _⟩ := HOs.out.form 0 h
                  cases e
                  exact ⟨_, _, rfl⟩
              have HDa : Hid (∀ a, a ≠ none → Els RLin (fun q => S q ∧ q < w.heap.size) wi a (m - k) (co - k) (out.drop k)) := Lib.hid (fun a ha => by have h1 := HEi.out.max; rw [HKE.out, Nat.sub_self, List.drop_of_length_le (by rw [HMl.out]; omega)]; exact Els.none (by omega) (fun e => absurd e ha))
              have hs3 := fun W : World => run_slice3 W g og m co k (by have := HEi.out.cap; omega)
              clear hkmz
              by_cases hkc : co = k
              · subst hkc
                have HDr : Hid (Els RLin (fun q => S q ∧ q < w.heap.size) wi (some ⟨g, og, none⟩) (m - co) 0 (out.drop co)) := Lib.hid (by have h := HDa.out (some ⟨g, og, none⟩) (by simp); rwa [Nat.sub_self] at h)
                have HFk : Hid (tidy (l.take (i + 1)) = out.take co ++ x :: out.drop co) := Lib.hid (by rw [HF.out]; exact insU_at x co out (by rw [← HMl.out]; omega) HT.out HWhy.out)
                go_wp2_with fail
                go_region_held3 (fun w' => w'.cell? ⟨b, off + i * 2, none⟩ = some (.int .i64 x.const) ∧ w'.cell? ⟨b, off + i * 2 + 1, none⟩ = some (.slice ax x.terms.length cx)) (first | exact ⟨x0, x1⟩ | go_keep) (first
                  | (refine step_el elemLin rfl (.tmp 68) (.tmp 71) rfl wi.heap.size _ [x] (out.drop co) rfl (S := fun q => S q ∧ q < w.heap.size) ?a1 _ _ _ rfl ?a2 ?a3 ?a4 ?a5 ?_
                     case a1 => exact Own.at1 (cs := [.int .i64 x.const, .slice ax x.terms.length cx]) (by (simp only [drew_heap, alloc_heap, Array.getElem?_push, Array.size_push]; simp)) (by simp <;> omega) (RLin.below (RLin.mono HXi.out (fun q hq hlt => ⟨hq, by have := hq.2; have := HBi.out.size; simp; omega⟩)) (by go_grown))
                     case a2 => exact ((HDr.out.below (by go_grown)).mono (fun q hq hlt => ⟨hq, fun e => by have h2 := hq.2; have h3 := HBi.out.size; have h4 : wi.heap.size = q := Option.some.inj e; omega⟩))
                     case a3 => simp <;> omega
                     case a4 => unfold maxLen; simp <;> omega
                     case a5 => simp <;> omega
                     intro v4 w4 hown4 hb4 hk4
                     obtain ⟨a4, c4, rfl, hs4⟩ := hown4.els
                     have hB4 : Below wi.heap.size wi w4 := Below.trans (by go_grown) hb4
                     have x0 := cellB x0 _ hB4
                     have x1 := cellB x1 _ hB4)
                  | (refine step_full elemLin rfl (.tmp 63) (.tmp 72) rfl _ co (out.take co) ([x] ++ out.drop co) rfl ((HEi.out.full co (by omega)).below (by first | exact hB4 | exact hB4.drew)) _ _ _ rfl ((hs4.mono (fun q hq _ => hq.1)).below (by first | exact Below.refl _ _ | exact (Below.refl _ _).drew)) (by simp) (by have := HMl.out; simp; omega) (by have := HMl.out; unfold maxLen; simp; omega) ?_
                     intro v5 w5 hown5 hb5
                     have hB5 : Below wi.heap.size wi w5 := hB4.trans (hb5.mono (by have := hB4.size; simp <;> omega))
                     have x0 := cellB x0 _ hb5; have x1 := cellB x1 _ hb5
                     obtain ⟨a5, m5, c5, rfl⟩ := hown5.shape))
                all_goals go_wp2_with fail
                go_roundw
                case rel => exact ⟨i + 1, _, by omega, by go_num, rfl, Lib.hid (by rw [HFk.out]; exact hown5.lower (by have h1 := hB4.size; have h2 := HBi.out.size; omega)), Lib.hid (fun h => absurd h (by rw [HFk.out]; simp)), HBi.out.trans (hB5.mono HBi.out.size)⟩
                case measure => simp [intOf]; omega
              · have HDr := Lib.hid (HDa.out (some ⟨g, og + k * 2, none⟩) (by simp))
                have HFk : Hid (tidy (l.take (i + 1)) = out.take k ++ x :: out.drop k) := Lib.hid (by rw [HF.out]; exact insU_at x k out (by rw [← HMl.out]; omega) HT.out HWhy.out)
                go_wp2_with fail
                go_region_held3 (fun w' => w'.cell? ⟨b, off + i * 2, none⟩ = some (.int .i64 x.const) ∧ w'.cell? ⟨b, off + i * 2 + 1, none⟩ = some (.slice ax x.terms.length cx)) (first | exact ⟨x0, x1⟩ | go_keep) (first
                  | (refine step_el elemLin rfl (.tmp 68) (.tmp 71) rfl wi.heap.size _ [x] (out.drop k) rfl (S := fun q => S q ∧ q < w.heap.size) ?a1 _ _ _ rfl ?a2 ?a3 ?a4 ?a5 ?_
                     case a1 => exact Own.at1 (cs := [.int .i64 x.const, .slice ax x.terms.length cx]) (by (simp only [drew_heap, alloc_heap, Array.getElem?_push, Array.size_push]; simp)) (by simp <;> omega) (RLin.below (RLin.mono HXi.out (fun q hq hlt => ⟨hq, by have := hq.2; have := HBi.out.size; simp; omega⟩)) (by go_grown))
                     case a2 => exact ((HDr.out.below (by go_grown)).mono (fun q hq hlt => ⟨hq, fun e => by have h2 := hq.2; have h3 := HBi.out.size; have h4 : wi.heap.size = q := Option.some.inj e; omega⟩))
                     case a3 => simp <;> omega
                     case a4 => unfold maxLen; simp <;> omega
                     case a5 => simp <;> omega
                     intro v4 w4 hown4 hb4 hk4
                     obtain ⟨a4, c4, rfl, hs4⟩ := hown4.els
                     have hB4 : Below wi.heap.size wi w4 := Below.trans (by go_grown) hb4
                     have x0 := cellB x0 _ hB4
                     have x1 := cellB x1 _ hB4)
                  | (refine step_full elemLin rfl (.tmp 63) (.tmp 72) rfl _ k (out.take k) ([x] ++ out.drop k) rfl ((HEi.out.full k (by omega)).below (by first | exact hB4 | exact hB4.drew)) _ _ _ rfl ((hs4.mono (fun q hq _ => hq.1)).below (by first | exact Below.refl _ _ | exact (Below.refl _ _).drew)) (by simp) (by have := HMl.out; simp; omega) (by have := HMl.out; unfold maxLen; simp; omega) ?_
                     intro v5 w5 hown5 hb5
                     have hB5 : Below wi.heap.size wi w5 := hB4.trans (hb5.mono (by have := hB4.size; simp <;> omega))
                     have x0 := cellB x0 _ hb5; have x1 := cellB x1 _ hb5
                     obtain ⟨a5, m5, c5, rfl⟩ := hown5.shape))
                all_goals go_wp2_with fail
                go_roundw
                case rel => exact ⟨i + 1, _, by omega, by go_num, rfl, Lib.hid (by rw [HFk.out]; exact hown5.lower (by have h1 := hB4.size; have h2 := HBi.out.size; omega)), Lib.hid (fun h => absurd h (by rw [HFk.out]; simp)), HBi.out.trans (hB5.mono HBi.out.size)⟩
                case measure => simp [intOf]; omega
    · have HAll : Hid (l.take i = l) := Lib.hid (List.take_of_length_le (by rw [HN.out]; omega))
      obtain ⟨a0, m0, c0, rfl⟩ := HO.out.shape
      go_wp2_with fail
      go_ret
      exact ⟨⟨_, rfl, by have := HO.out; rwa [HAll.out] at this⟩, hB⟩
end Go.Proofs.YtjongcdlginjlaaGreatDoor
