/- The claim's texts, part 2: contracts of the functions that the statement reaches, and what they say of the data. -/
import Derived.Test.YtjongcdlginjlaaGreatDoorPm1
set_option maxRecDepth 100000
set_option maxHeartbeats 8000000
set_option linter.all false
namespace Go.Proofs.YtjongcdlginjlaaGreatDoor
open Go.Proofs.Tryz
open Go.RowKit
abbrev Ent1 (k : FuncId) : Prop := ∀ args w, (callFunc k args).run Tryz.prog w = .ok (.enter k args) w
def idx {α : Type} (p : α → Bool) (l : List α) : Int := if l.any p then (l.findIdx p : Int) else -1
theorem idx_hit {α : Type} [Inhabited α] {p : α → Bool} {l : List α} {k : Nat} (hk : k < l.length) (h : p (l.getD k default) = true) (hb : ∀ j, j < k → p (l.getD j default) = false) : idx p l = k := by
 unfold idx
 have hg : ∀ j (hj : j < l.length), l.getD j default = l[j] := fun j hj => by rw [List.getD_eq_getElem?_getD, List.getElem?_eq_getElem hj]; rfl
 rw [if_pos (List.any_eq_true.2 ⟨l[k], List.getElem_mem hk, by rw [← hg k hk]; exact h⟩)]
 congr 1
 rw [List.findIdx_eq hk]
 exact ⟨by rw [← hg k hk]; exact h, fun j hj => by rw [← hg j (by omega)]; simpa using hb j hj⟩
theorem kGU {α : Type} [Inhabited α] {p : α → Bool} {l : List α} (hb : ∀ j, j < l.length → p (l.getD j default) = false) : idx p l = -1 := by
 unfold idx
 rw [if_neg]; rw [List.any_eq_true]
 rintro ⟨x, hx, hp⟩
 obtain ⟨i, hi⟩ := List.mem_iff_getElem?.1 hx
 have hlt : i < l.length := by
  rcases Nat.lt_or_ge i l.length with q | q
  · exact q
  · rw [List.getElem?_eq_none q] at hi; cases hi
 have := hb i hlt
 rw [List.getD_eq_getElem?_getD, hi] at this
 simp only [Option.getD_some] at this
 rw [hp] at this
 cases this
theorem Sl.lin {S : Blk} {w : World} {b off n c : Nat} {l : List Lin} (h : Sl RLin S w (some ⟨b, off, none⟩) n c l) (k : Nat) (hk : k < n) :
 ∃ t, RLin.rd S w [.int .i64 (l.getD k default).const, t] (l.getD k default) ∧ (SlV kBP S w t (l.getD k default).terms) ∧ w.cell? ⟨b, off + k * 2, none⟩ = some (.int .i64 (l.getD k default).const) ∧ w.cell? ⟨b, off + k * 2 + 1, none⟩ = some (t) := by
 obtain ⟨cs, hr, hc⟩ := h.cells k _ (kCY (by rw [h.len]; exact hk))
 obtain ⟨t, rfl, hd⟩ := hr
 exact ⟨t, ⟨t, rfl, hd⟩, hd, hc 0 _ rfl, hc 1 _ rfl⟩
theorem Sl.typ {S : Blk} {w : World} {b off n c : Nat} {l : List Typ} (h : Sl RTyp S w (some ⟨b, off, none⟩) n c l) (k : Nat) (hk : k < n) :
 ∃ t, RTyp.rd S w [.string (l.getD k default).elem, .string (l.getD k default).shape.row, t] (l.getD k default) ∧ (SlV RLin S w t (l.getD k default).shape.dims) ∧ w.cell? ⟨b, off + k * 3, none⟩ = some (.string (l.getD k default).elem) ∧ w.cell? ⟨b, off + k * 3 + 1, none⟩ = some (.string (l.getD k default).shape.row) ∧ w.cell? ⟨b, off + k * 3 + 2, none⟩ = some (t) := by
 obtain ⟨cs, hr, hc⟩ := h.cells k _ (kCY (by rw [h.len]; exact hk))
 obtain ⟨t, rfl, hd⟩ := hr
 exact ⟨t, ⟨t, rfl, hd⟩, hd, hc 0 _ rfl, hc 1 _ rfl, hc 2 _ rfl⟩
theorem Sl.bnd {S : Blk} {w : World} {b off n c : Nat} {l : List Bnd} (h : Sl RBnd S w (some ⟨b, off, none⟩) n c l) (k : Nat) (hk : k < n) :
 ∃ t d, RBnd.rd S w [.int .i64 (l.getD k default).kind, .string (l.getD k default).v, .int .i64 (l.getD k default).dim.const, t, .string (l.getD k default).row.row, d, .string (l.getD k default).elem] (l.getD k default) ∧ (SlV kBP S w t (l.getD k default).dim.terms ∧ SlV RLin S w d (l.getD k default).row.dims) ∧ w.cell? ⟨b, off + k * 7, none⟩ = some (.int .i64 (l.getD k default).kind) ∧ w.cell? ⟨b, off + k * 7 + 1, none⟩ = some (.string (l.getD k default).v) ∧ w.cell? ⟨b, off + k * 7 + 2, none⟩ = some (.int .i64 (l.getD k default).dim.const) ∧ w.cell? ⟨b, off + k * 7 + 3, none⟩ = some (t) ∧ w.cell? ⟨b, off + k * 7 + 4, none⟩ = some (.string (l.getD k default).row.row) ∧ w.cell? ⟨b, off + k * 7 + 5, none⟩ = some (d) ∧ w.cell? ⟨b, off + k * 7 + 6, none⟩ = some (.string (l.getD k default).elem) := by
 obtain ⟨cs, hr, hc⟩ := h.cells k _ (kCY (by rw [h.len]; exact hk))
 obtain ⟨t, d, rfl, hd⟩ := hr
 exact ⟨t, d, ⟨t, d, rfl, hd⟩, hd, hc 0 _ rfl, hc 1 _ rfl, hc 2 _ rfl, hc 3 _ rfl, hc 4 _ rfl, hc 5 _ rfl, hc 6 _ rfl⟩
theorem Sl.ent {S : Blk} {w : World} {b off n c : Nat} {l : List Ent} (h : Sl REnt S w (some ⟨b, off, none⟩) n c l) (k : Nat) (hk : k < n) :
 ∃ pp tt qq, REnt.rd S w [.string (l.getD k default).name, pp, .string (l.getD k default).scheme.result.elem, .string (l.getD k default).scheme.result.shape.row, tt, qq] (l.getD k default) ∧ (SlV RTyp S w pp (l.getD k default).scheme.params ∧ SlV RLin S w tt (l.getD k default).scheme.result.shape.dims ∧ SlV RLin S w qq (l.getD k default).scheme.wh) ∧ w.cell? ⟨b, off + k * 6, none⟩ = some (.string (l.getD k default).name) ∧ w.cell? ⟨b, off + k * 6 + 1, none⟩ = some (pp) ∧ w.cell? ⟨b, off + k * 6 + 2, none⟩ = some (.string (l.getD k default).scheme.result.elem) ∧ w.cell? ⟨b, off + k * 6 + 3, none⟩ = some (.string (l.getD k default).scheme.result.shape.row) ∧ w.cell? ⟨b, off + k * 6 + 4, none⟩ = some (tt) ∧ w.cell? ⟨b, off + k * 6 + 5, none⟩ = some (qq) := by
 obtain ⟨cs, hr, hc⟩ := h.cells k _ (kCY (by rw [h.len]; exact hk))
 obtain ⟨cs', rfl, p, t, q, rfl, hd⟩ := hr
 exact ⟨p, t, q, ⟨_, rfl, p, t, q, rfl, hd⟩, hd, hc 0 _ rfl, hc 1 _ rfl, hc 2 _ rfl, hc 3 _ rfl, hc 4 _ rfl, hc 5 _ rfl⟩
theorem index_Lin {S : Blk} (l : List Lin) (a : Option Addr) (n c : Nat) (w : World) (h : Sl RLin S w a n c l) (g : FuncId) (cp : Array Value) (hen : Ent1 g) (p : Lin → Bool)
 (hp : ∀ (W : World) (x : Lin) (cs : List Value), Below w.heap.size w W → x ∈ l → RLin.rd S W cs x → Calls Tryz.prog g (#[.agg cs.toArray] ++ cp) W fun e w' => e = .returned (.bool (p x)) ∧ Below W.heap.size W w') :
 Calls Tryz.prog 107 #[.slice a n c, .func (.func g) #[] cp] w fun e w' => e = .returned (.int .i64 (idx p l)) ∧ Below w.heap.size w w' := by
 have H := hJ h; have HP := hJ hp
 have hn : n ≤ 9223372036854775807 := by have := h.cap; have := h.max; unfold maxLen at this; omega
 clear h hp
 go_enter func107, ntmps107
 go_wp2_with fail
 go_loopw [5, 8] (fun q i wr => ∃ k : Nat, k ≤ n ∧ i = .int .i64 k ∧ Hid (∀ j, j < k → p (l.getD j default) = false) ∧ Below w.heap.size w wr) (fun _ i _ => n - (intOf i).toNat)
 case atStart => exact ⟨0, Nat.zero_le _, rfl, fun j hj => absurd hj (by omega), Below.refl _ _⟩
 case round =>
  obtain ⟨k, hk, rfl, HT, hB⟩ := hrel
  by_cases hlt : k < n
  · obtain ⟨b, off, rfl, hbW, _⟩ := H.out.form k hlt
    have HK : Hid (k < l.length) := hJ (by rw [H.out.len]; exact hlt)
    have HR := hJ (H.out.below hB); obtain ⟨t, hr, hd, c0, c1⟩ := HR.out.lin k hlt; have HC := hJ (HP.out _ _ _ hB (kAI HK.out) hr)
    have HH : Hid (p (l.getD k default) = true → idx p l = k) := hJ (fun q => idx_hit HK.out q HT.out)
    have HG : Hid (p (l.getD k default) = false → ∀ j, j < k + 1 → p (l.getD j default) = false) := hJ (fun q j hj => by
     rcases Nat.lt_or_ge j k with r | r
     · exact HT.out j r
     · obtain rfl : j = k := by omega
       exact q)
    clear hd hr
    generalize l.getD k default = x at *
    by_cases hq : p x = true
    · have HF := hJ (HH.out hq)
      have HC : Hid (Calls Tryz.prog g _ wr _) := HC
      rw [hq] at HC
      go_wp2_with (go_at_fn g; refine HC.out.mono ?_; rintro e w' ⟨rfl, hb'⟩)
      go_ret
      exact ⟨by rw [HF.out]; rfl, hB.trans (hb'.mono hB.size)⟩
    · have hq : p x = false := by simpa using hq
      have HGo := hJ (HG.out hq); rw [hq] at HC
      go_wp2_with (go_at_fn g; refine HC.out.mono ?_; rintro e w' ⟨rfl, hb'⟩)
      go_roundw
      case rel => exact ⟨k + 1, by omega, by go_num, HGo, hB.trans (hb'.mono hB.size)⟩
      case measure => simp [intOf]; omega
  · have HF : Hid (idx p l = -1) := hJ (kGU fun j hj => HT.out j (by rw [H.out.len] at hj; omega))
    go_wp2_with fail
    go_ret
    exact ⟨by rw [HF.out]; rfl, hB⟩
theorem index_Typ {S : Blk} (l : List Typ) (a : Option Addr) (n c : Nat) (w : World) (h : Sl RTyp S w a n c l) (g : FuncId) (cp : Array Value) (hen : Ent1 g) (p : Typ → Bool)
 (hp : ∀ (W : World) (x : Typ) (cs : List Value), Below w.heap.size w W → x ∈ l → RTyp.rd S W cs x → Calls Tryz.prog g (#[.agg cs.toArray] ++ cp) W fun e w' => e = .returned (.bool (p x)) ∧ Below W.heap.size W w') :
 Calls Tryz.prog 129 #[.slice a n c, .func (.func g) #[] cp] w fun e w' => e = .returned (.int .i64 (idx p l)) ∧ Below w.heap.size w w' := by
 have H := hJ h; have HP := hJ hp
 have hn : n ≤ 9223372036854775807 := by have := h.cap; have := h.max; unfold maxLen at this; omega
 clear h hp
 go_enter func129, ntmps129
 go_wp2_with fail
 go_loopw [5, 8] (fun q i wr => ∃ k : Nat, k ≤ n ∧ i = .int .i64 k ∧ Hid (∀ j, j < k → p (l.getD j default) = false) ∧ Below w.heap.size w wr) (fun _ i _ => n - (intOf i).toNat)
 case atStart => exact ⟨0, Nat.zero_le _, rfl, fun j hj => absurd hj (by omega), Below.refl _ _⟩
 case round =>
  obtain ⟨k, hk, rfl, HT, hB⟩ := hrel
  by_cases hlt : k < n
  · obtain ⟨b, off, rfl, hbW, _⟩ := H.out.form k hlt
    have HK : Hid (k < l.length) := hJ (by rw [H.out.len]; exact hlt)
    have HR := hJ (H.out.below hB); obtain ⟨t, hr, hd, c0, c1, c2⟩ := HR.out.typ k hlt; have HC := hJ (HP.out _ _ _ hB (kAI HK.out) hr)
    have HH : Hid (p (l.getD k default) = true → idx p l = k) := hJ (fun q => idx_hit HK.out q HT.out)
    have HG : Hid (p (l.getD k default) = false → ∀ j, j < k + 1 → p (l.getD j default) = false) := hJ (fun q j hj => by
     rcases Nat.lt_or_ge j k with r | r
     · exact HT.out j r
     · obtain rfl : j = k := by omega
       exact q)
    clear hd hr
    generalize l.getD k default = x at *
    by_cases hq : p x = true
    · have HF := hJ (HH.out hq)
      have HC : Hid (Calls Tryz.prog g _ wr _) := HC
      rw [hq] at HC
      go_wp2_with (go_at_fn g; refine HC.out.mono ?_; rintro e w' ⟨rfl, hb'⟩)
      go_ret
      exact ⟨by rw [HF.out]; rfl, hB.trans (hb'.mono hB.size)⟩
    · have hq : p x = false := by simpa using hq
      have HGo := hJ (HG.out hq); rw [hq] at HC
      go_wp2_with (go_at_fn g; refine HC.out.mono ?_; rintro e w' ⟨rfl, hb'⟩)
      go_roundw
      case rel => exact ⟨k + 1, by omega, by go_num, HGo, hB.trans (hb'.mono hB.size)⟩
      case measure => simp [intOf]; omega
  · have HF : Hid (idx p l = -1) := hJ (kGU fun j hj => HT.out j (by rw [H.out.len] at hj; omega))
    go_wp2_with fail
    go_ret
    exact ⟨by rw [HF.out]; rfl, hB⟩
theorem index_Bnd {S : Blk} (l : List Bnd) (a : Option Addr) (n c : Nat) (w : World) (h : Sl RBnd S w a n c l) (g : FuncId) (cp : Array Value) (hen : Ent1 g) (p : Bnd → Bool)
 (hp : ∀ (W : World) (x : Bnd) (cs : List Value), Below w.heap.size w W → x ∈ l → RBnd.rd S W cs x → Calls Tryz.prog g (#[.agg cs.toArray] ++ cp) W fun e w' => e = .returned (.bool (p x)) ∧ Below W.heap.size W w') :
 Calls Tryz.prog 147 #[.slice a n c, .func (.func g) #[] cp] w fun e w' => e = .returned (.int .i64 (idx p l)) ∧ Below w.heap.size w w' := by
 have H := hJ h; have HP := hJ hp
 have hn : n ≤ 9223372036854775807 := by have := h.cap; have := h.max; unfold maxLen at this; omega
 clear h hp
 go_enter func147, ntmps147
 go_wp2_with fail
 go_loopw [5, 8] (fun q i wr => ∃ k : Nat, k ≤ n ∧ i = .int .i64 k ∧ Hid (∀ j, j < k → p (l.getD j default) = false) ∧ Below w.heap.size w wr) (fun _ i _ => n - (intOf i).toNat)
 case atStart => exact ⟨0, Nat.zero_le _, rfl, fun j hj => absurd hj (by omega), Below.refl _ _⟩
 case round =>
  obtain ⟨k, hk, rfl, HT, hB⟩ := hrel
  by_cases hlt : k < n
  · obtain ⟨b, off, rfl, hbW, _⟩ := H.out.form k hlt
    have HK : Hid (k < l.length) := hJ (by rw [H.out.len]; exact hlt)
    have HR := hJ (H.out.below hB); obtain ⟨t, d, hr, hd, c0, c1, c2, c3, c4, c5, c6⟩ := HR.out.bnd k hlt; have HC := hJ (HP.out _ _ _ hB (kAI HK.out) hr)
    have HH : Hid (p (l.getD k default) = true → idx p l = k) := hJ (fun q => idx_hit HK.out q HT.out)
    have HG : Hid (p (l.getD k default) = false → ∀ j, j < k + 1 → p (l.getD j default) = false) := hJ (fun q j hj => by
     rcases Nat.lt_or_ge j k with r | r
     · exact HT.out j r
     · obtain rfl : j = k := by omega
       exact q)
    clear hd hr
    generalize l.getD k default = x at *
    by_cases hq : p x = true
    · have HF := hJ (HH.out hq)
      have HC : Hid (Calls Tryz.prog g _ wr _) := HC
      rw [hq] at HC
      go_wp2_with (go_at_fn g; refine HC.out.mono ?_; rintro e w' ⟨rfl, hb'⟩)
      go_ret
      exact ⟨by rw [HF.out]; rfl, hB.trans (hb'.mono hB.size)⟩
    · have hq : p x = false := by simpa using hq
      have HGo := hJ (HG.out hq); rw [hq] at HC
      go_wp2_with (go_at_fn g; refine HC.out.mono ?_; rintro e w' ⟨rfl, hb'⟩)
      go_roundw
      case rel => exact ⟨k + 1, by omega, by go_num, HGo, hB.trans (hb'.mono hB.size)⟩
      case measure => simp [intOf]; omega
  · have HF : Hid (idx p l = -1) := hJ (kGU fun j hj => HT.out j (by rw [H.out.len] at hj; omega))
    go_wp2_with fail
    go_ret
    exact ⟨by rw [HF.out]; rfl, hB⟩
theorem blw2 (w : World) (a b : Obj) : Below w.heap.size w ((w.alloc a).alloc b) := ((Below.refl _ _).alloc (Nat.le_refl _) _).alloc (by simp) _
def kA2 {α : Type} [Inhabited α] (p : α → α → Bool) (l l2 : List α) : Bool := l.length == l2.length && (List.range l.length).all (fun i => p (l.getD i default) (l2.getD i default))
theorem eq_len {α : Type} [Inhabited α] (p : α → α → Bool) {l l2 : List α} (h : l.length ≠ l2.length) : kA2 p l l2 = false := by
 unfold kA2; rw [beq_eq_false_iff_ne.2 h]; rfl
theorem eq_stop {α : Type} [Inhabited α] (p : α → α → Bool) {l l2 : List α} {k : Nat} (hk : k < l.length) (hk2 : k < l2.length) (h : p (l.getD k default) (l2.getD k default) = false) : kA2 p l l2 = false := by
 unfold kA2; rw [kD1 hk h, Bool.and_false]
theorem eq_done {α : Type} [Inhabited α] (p : α → α → Bool) {l l2 : List α} (h : l.length = l2.length) (ha : ∀ j, j < l.length → p (l.getD j default) (l2.getD j default) = true) : kA2 p l l2 = true := by
 unfold kA2; rw [kCH ha, beq_iff_eq.2 h]; rfl
theorem equal_Lin {S T : Blk} (l l2 : List Lin) (a a2 : Option Addr) (n n2 c c2 : Nat) (w : World) (h : Sl RLin S w a n c l) (h2 : Sl RLin T w a2 n2 c2 l2) (g : FuncId) (hen : Ent1 g) (p : Lin → Lin → Bool)
 (hp : ∀ (W : World) (x y : Lin) (cs ds : List Value), Below w.heap.size w W → x ∈ l → y ∈ l2 → RLin.rd S W cs x → RLin.rd T W ds y → Calls Tryz.prog g #[.agg cs.toArray, .agg ds.toArray] W fun e w' => e = .returned (.bool (p x y)) ∧ Below W.heap.size W w') :
 Calls Tryz.prog 93 #[.slice a n c, .slice a2 n2 c2, .func (.func g) #[] #[]] w fun e w' => e = .returned (.bool (kA2 p l l2)) ∧ Below w.heap.size w w' := by
 have H := hJ h; have H2 := hJ h2; have HP := hJ hp
 have hn : n ≤ 9223372036854775807 := by have := h.cap; have := h.max; unfold maxLen at this; omega
 have hn2 : n2 ≤ 9223372036854775807 := by have := h2.cap; have := h2.max; unfold maxLen at this; omega
 clear h h2 hp
 by_cases hnn : n = n2
 case neg =>
  have HF : Hid (kA2 p l l2 = false) := hJ (eq_len p (by rw [H.out.len, H2.out.len]; exact hnn))
  have q : ((n : Int) != (n2 : Int)) = true := bne_iff_ne.2 (by omega)
  go_enter func93, ntmps93
  go_wp2_with fail
  go_ret
  exact ⟨by rw [HF.out]; rfl, Below.refl _ _⟩
 subst hnn
 go_enter func93, ntmps93
 go_wp2_with fail
 go_loopw [17] (fun i wr => ∃ k : Nat, k ≤ n ∧ i = .int .i64 k ∧ Hid (∀ j, j < k → p (l.getD j default) (l2.getD j default) = true) ∧ Below w.heap.size w wr) (fun i _ => n - (intOf i).toNat)
 case atStart => exact ⟨0, Nat.zero_le _, rfl, fun j hj => absurd hj (by omega), Below.refl _ _⟩
 case round =>
  obtain ⟨k, hk, rfl, HT, hB⟩ := hrel
  by_cases hlt : k < n
  · obtain ⟨b, off, rfl, hbW, _⟩ := H.out.form k hlt
    obtain ⟨b2, off2, rfl, hbW2, _⟩ := H2.out.form k hlt
    have HK : Hid (k < l.length) := hJ (by rw [H.out.len]; exact hlt)
    have HK2 : Hid (k < l2.length) := hJ (by rw [H2.out.len]; exact hlt)
    have HR := hJ (H.out.below hB); have HR2 := hJ (H2.out.below hB); obtain ⟨t, hr, hd, c0, c1⟩ := HR.out.lin k hlt; obtain ⟨t2, hr2, hd2, d0, d1⟩ := HR2.out.lin k hlt; have HM := hJ (kAI HK.out); have HM2 := hJ (kAI HK2.out); have HRd := hJ hr; have HRd2 := hJ hr2
    have HH : Hid (p (l.getD k default) (l2.getD k default) = false → kA2 p l l2 = false) := hJ (fun q => eq_stop p HK.out HK2.out q)
    have HG : Hid (p (l.getD k default) (l2.getD k default) = true → ∀ j, j < k + 1 → p (l.getD j default) (l2.getD j default) = true) := hJ (fun q j hj => by
     rcases Nat.lt_or_ge j k with r | r
     · exact HT.out j r
     · obtain rfl : j = k := by omega
       exact q)
    obtain ⟨ta1, tc1, rfl, -⟩ := hd; obtain ⟨ta2, tc2, rfl, -⟩ := hd2; clear hr hr2
    generalize l.getD k default = x at *
    generalize l2.getD k default = y at *
    have HB : Hid (∀ W', Below wr.heap.size wr W' → Calls Tryz.prog g #[.agg #[.int .i64 x.const, .slice ta1 x.terms.length tc1], .agg #[.int .i64 y.const, .slice ta2 y.terms.length tc2]] W' fun e w' => e = .returned (.bool (p x y)) ∧ Below W'.heap.size W' w') :=
     hJ (fun W' hW => HP.out W' x y _ _ (hB.trans (hW.mono hB.size)) HM.out HM2.out (RLin.below HRd.out hW) (RLin.below HRd2.out hW))
    have hA1 : Below wr.heap.size wr (wr.alloc (.cells #[.int .i64 x.const, .slice ta1 x.terms.length tc1] 65)) := (Below.refl _ _).alloc (Nat.le_refl _) _
    have f0 := kAC d0 _ hA1; have f1 := kAC d1 _ hA1; clear hA1 d0 d1
    by_cases hq : p x y = true
    · have HGo := hJ (HG.out hq)
      rw [hq] at HB
      go_wp2_with (go_at_fn g; refine (HB.out _ (blw2 _ _ _)).mono ?_; rintro e w' ⟨rfl, hb'⟩)
      go_roundw
      case rel => exact ⟨k + 1, by omega, by go_num, HGo, (hB.trans ((blw2 _ _ _).mono hB.size)).trans (hb'.mono (Nat.le_trans hB.size (blw2 _ _ _).size))⟩
      case measure => simp [intOf]; omega
    · have hq : p x y = false := by simpa using hq
      have HF := hJ (HH.out hq); rw [hq] at HB
      go_wp2_with (go_at_fn g; refine (HB.out _ (blw2 _ _ _)).mono ?_; rintro e w' ⟨rfl, hb'⟩)
      go_ret
      exact ⟨by rw [HF.out]; rfl, (hB.trans ((blw2 _ _ _).mono hB.size)).trans (hb'.mono (Nat.le_trans hB.size (blw2 _ _ _).size))⟩
  · have HF : Hid (kA2 p l l2 = true) := hJ (eq_done p (by rw [H.out.len, H2.out.len]) fun j hj => HT.out j (by rw [H.out.len] at hj; omega))
    go_wp2_with fail
    go_ret
    exact ⟨by rw [HF.out]; rfl, hB⟩
theorem equal_Typ {S T : Blk} (l l2 : List Typ) (a a2 : Option Addr) (n n2 c c2 : Nat) (w : World) (h : Sl RTyp S w a n c l) (h2 : Sl RTyp T w a2 n2 c2 l2) (g : FuncId) (hen : Ent1 g) (p : Typ → Typ → Bool)
 (hp : ∀ (W : World) (x y : Typ) (cs ds : List Value), Below w.heap.size w W → x ∈ l → y ∈ l2 → RTyp.rd S W cs x → RTyp.rd T W ds y → Calls Tryz.prog g #[.agg cs.toArray, .agg ds.toArray] W fun e w' => e = .returned (.bool (p x y)) ∧ Below W.heap.size W w') :
 Calls Tryz.prog 91 #[.slice a n c, .slice a2 n2 c2, .func (.func g) #[] #[]] w fun e w' => e = .returned (.bool (kA2 p l l2)) ∧ Below w.heap.size w w' := by
 have H := hJ h; have H2 := hJ h2; have HP := hJ hp
 have hn : n ≤ 9223372036854775807 := by have := h.cap; have := h.max; unfold maxLen at this; omega
 have hn2 : n2 ≤ 9223372036854775807 := by have := h2.cap; have := h2.max; unfold maxLen at this; omega
 clear h h2 hp
 by_cases hnn : n = n2
 case neg =>
  have HF : Hid (kA2 p l l2 = false) := hJ (eq_len p (by rw [H.out.len, H2.out.len]; exact hnn))
  have q : ((n : Int) != (n2 : Int)) = true := bne_iff_ne.2 (by omega)
  go_enter func91, ntmps91
  go_wp2_with fail
  go_ret
  exact ⟨by rw [HF.out]; rfl, Below.refl _ _⟩
 subst hnn
 go_enter func91, ntmps91
 go_wp2_with fail
 go_loopw [17] (fun i wr => ∃ k : Nat, k ≤ n ∧ i = .int .i64 k ∧ Hid (∀ j, j < k → p (l.getD j default) (l2.getD j default) = true) ∧ Below w.heap.size w wr) (fun i _ => n - (intOf i).toNat)
 case atStart => exact ⟨0, Nat.zero_le _, rfl, fun j hj => absurd hj (by omega), Below.refl _ _⟩
 case round =>
  obtain ⟨k, hk, rfl, HT, hB⟩ := hrel
  by_cases hlt : k < n
  · obtain ⟨b, off, rfl, hbW, _⟩ := H.out.form k hlt
    obtain ⟨b2, off2, rfl, hbW2, _⟩ := H2.out.form k hlt
    have HK : Hid (k < l.length) := hJ (by rw [H.out.len]; exact hlt)
    have HK2 : Hid (k < l2.length) := hJ (by rw [H2.out.len]; exact hlt)
    have HR := hJ (H.out.below hB); have HR2 := hJ (H2.out.below hB); obtain ⟨t, hr, hd, c0, c1, c2⟩ := HR.out.typ k hlt; obtain ⟨t2, hr2, hd2, d0, d1, d2⟩ := HR2.out.typ k hlt; have HM := hJ (kAI HK.out); have HM2 := hJ (kAI HK2.out); have HRd := hJ hr; have HRd2 := hJ hr2
    have HH : Hid (p (l.getD k default) (l2.getD k default) = false → kA2 p l l2 = false) := hJ (fun q => eq_stop p HK.out HK2.out q)
    have HG : Hid (p (l.getD k default) (l2.getD k default) = true → ∀ j, j < k + 1 → p (l.getD j default) (l2.getD j default) = true) := hJ (fun q j hj => by
     rcases Nat.lt_or_ge j k with r | r
     · exact HT.out j r
     · obtain rfl : j = k := by omega
       exact q)
    obtain ⟨ta1, tc1, rfl, -⟩ := hd; obtain ⟨ta2, tc2, rfl, -⟩ := hd2; clear hr hr2
    generalize l.getD k default = x at *
    generalize l2.getD k default = y at *
    have HB : Hid (∀ W', Below wr.heap.size wr W' → Calls Tryz.prog g #[.agg #[.string x.elem, .string x.shape.row, .slice ta1 x.shape.dims.length tc1], .agg #[.string y.elem, .string y.shape.row, .slice ta2 y.shape.dims.length tc2]] W' fun e w' => e = .returned (.bool (p x y)) ∧ Below W'.heap.size W' w') :=
     hJ (fun W' hW => HP.out W' x y _ _ (hB.trans (hW.mono hB.size)) HM.out HM2.out (RTyp.below HRd.out hW) (RTyp.below HRd2.out hW))
    have hA1 : Below wr.heap.size wr (wr.alloc (.cells #[.string x.elem, .string x.shape.row, .slice ta1 x.shape.dims.length tc1] 39)) := (Below.refl _ _).alloc (Nat.le_refl _) _
    have f0 := kAC d0 _ hA1; have f1 := kAC d1 _ hA1; have f2 := kAC d2 _ hA1; clear hA1 d0 d1 d2
    by_cases hq : p x y = true
    · have HGo := hJ (HG.out hq)
      rw [hq] at HB
      go_wp2_with (go_at_fn g; refine (HB.out _ (blw2 _ _ _)).mono ?_; rintro e w' ⟨rfl, hb'⟩)
      go_roundw
      case rel => exact ⟨k + 1, by omega, by go_num, HGo, (hB.trans ((blw2 _ _ _).mono hB.size)).trans (hb'.mono (Nat.le_trans hB.size (blw2 _ _ _).size))⟩
      case measure => simp [intOf]; omega
    · have hq : p x y = false := by simpa using hq
      have HF := hJ (HH.out hq); rw [hq] at HB
      go_wp2_with (go_at_fn g; refine (HB.out _ (blw2 _ _ _)).mono ?_; rintro e w' ⟨rfl, hb'⟩)
      go_ret
      exact ⟨by rw [HF.out]; rfl, (hB.trans ((blw2 _ _ _).mono hB.size)).trans (hb'.mono (Nat.le_trans hB.size (blw2 _ _ _).size))⟩
  · have HF : Hid (kA2 p l l2 = true) := hJ (eq_done p (by rw [H.out.len, H2.out.len]) fun j hj => HT.out j (by rw [H.out.len] at hj; omega))
    go_wp2_with fail
    go_ret
    exact ⟨by rw [HF.out]; rfl, hB⟩
theorem equal_Ent {S T : Blk} (l l2 : List Ent) (a a2 : Option Addr) (n n2 c c2 : Nat) (w : World) (h : Sl REnt S w a n c l) (h2 : Sl REnt T w a2 n2 c2 l2) (g : FuncId) (hen : Ent1 g) (p : Ent → Ent → Bool)
 (hp : ∀ (W : World) (x y : Ent) (cs ds : List Value), Below w.heap.size w W → x ∈ l → y ∈ l2 → REnt.rd S W cs x → REnt.rd T W ds y → Calls Tryz.prog g #[.agg cs.toArray, .agg ds.toArray] W fun e w' => e = .returned (.bool (p x y)) ∧ Below W.heap.size W w') :
 Calls Tryz.prog 43 #[.slice a n c, .slice a2 n2 c2, .func (.func g) #[] #[]] w fun e w' => e = .returned (.bool (kA2 p l l2)) ∧ Below w.heap.size w w' := by
 have H := hJ h; have H2 := hJ h2; have HP := hJ hp
 have hn : n ≤ 9223372036854775807 := by have := h.cap; have := h.max; unfold maxLen at this; omega
 have hn2 : n2 ≤ 9223372036854775807 := by have := h2.cap; have := h2.max; unfold maxLen at this; omega
 clear h h2 hp
 by_cases hnn : n = n2
 case neg =>
  have HF : Hid (kA2 p l l2 = false) := hJ (eq_len p (by rw [H.out.len, H2.out.len]; exact hnn))
  have q : ((n : Int) != (n2 : Int)) = true := bne_iff_ne.2 (by omega)
  go_enter func43, ntmps43
  go_wp2_with fail
  go_ret
  exact ⟨by rw [HF.out]; rfl, Below.refl _ _⟩
 subst hnn
 go_enter func43, ntmps43
 go_wp2_with fail
 go_loopw [17] (fun i wr => ∃ k : Nat, k ≤ n ∧ i = .int .i64 k ∧ Hid (∀ j, j < k → p (l.getD j default) (l2.getD j default) = true) ∧ Below w.heap.size w wr) (fun i _ => n - (intOf i).toNat)
 case atStart => exact ⟨0, Nat.zero_le _, rfl, fun j hj => absurd hj (by omega), Below.refl _ _⟩
 case round =>
  obtain ⟨k, hk, rfl, HT, hB⟩ := hrel
  by_cases hlt : k < n
  · obtain ⟨b, off, rfl, hbW, _⟩ := H.out.form k hlt
    obtain ⟨b2, off2, rfl, hbW2, _⟩ := H2.out.form k hlt
    have HK : Hid (k < l.length) := hJ (by rw [H.out.len]; exact hlt)
    have HK2 : Hid (k < l2.length) := hJ (by rw [H2.out.len]; exact hlt)
    have HR := hJ (H.out.below hB); have HR2 := hJ (H2.out.below hB); obtain ⟨pp, tt, qq, hr, hd, c0, c1, c2, c3, c4, c5⟩ := HR.out.ent k hlt; obtain ⟨pp2, tt2, qq2, hr2, hd2, d0, d1, d2, d3, d4, d5⟩ := HR2.out.ent k hlt; have HM := hJ (kAI HK.out); have HM2 := hJ (kAI HK2.out); have HRd := hJ hr; have HRd2 := hJ hr2
    have HH : Hid (p (l.getD k default) (l2.getD k default) = false → kA2 p l l2 = false) := hJ (fun q => eq_stop p HK.out HK2.out q)
    have HG : Hid (p (l.getD k default) (l2.getD k default) = true → ∀ j, j < k + 1 → p (l.getD j default) (l2.getD j default) = true) := hJ (fun q j hj => by
     rcases Nat.lt_or_ge j k with r | r
     · exact HT.out j r
     · obtain rfl : j = k := by omega
       exact q)
    obtain ⟨⟨pa1, pc1, rfl, -⟩, ⟨ta1, tc1, rfl, -⟩, ⟨qa1, qc1, rfl, -⟩⟩ := hd; obtain ⟨⟨pa2, pc2, rfl, -⟩, ⟨ta2, tc2, rfl, -⟩, ⟨qa2, qc2, rfl, -⟩⟩ := hd2; clear hr hr2
    generalize l.getD k default = x at *
    generalize l2.getD k default = y at *
    have HB : Hid (∀ W', Below wr.heap.size wr W' → Calls Tryz.prog g #[.agg #[.string x.name, .slice pa1 x.scheme.params.length pc1, .string x.scheme.result.elem, .string x.scheme.result.shape.row, .slice ta1 x.scheme.result.shape.dims.length tc1, .slice qa1 x.scheme.wh.length qc1], .agg #[.string y.name, .slice pa2 y.scheme.params.length pc2, .string y.scheme.result.elem, .string y.scheme.result.shape.row, .slice ta2 y.scheme.result.shape.dims.length tc2, .slice qa2 y.scheme.wh.length qc2]] W' fun e w' => e = .returned (.bool (p x y)) ∧ Below W'.heap.size W' w') :=
     hJ (fun W' hW => HP.out W' x y _ _ (hB.trans (hW.mono hB.size)) HM.out HM2.out (REnt.below HRd.out hW) (REnt.below HRd2.out hW))
    have hA1 : Below wr.heap.size wr (wr.alloc (.cells #[.string x.name, .slice pa1 x.scheme.params.length pc1, .string x.scheme.result.elem, .string x.scheme.result.shape.row, .slice ta1 x.scheme.result.shape.dims.length tc1, .slice qa1 x.scheme.wh.length qc1] 43)) := (Below.refl _ _).alloc (Nat.le_refl _) _
    have f0 := kAC d0 _ hA1; have f1 := kAC d1 _ hA1; have f2 := kAC d2 _ hA1; have f3 := kAC d3 _ hA1; have f4 := kAC d4 _ hA1; have f5 := kAC d5 _ hA1; clear hA1 d0 d1 d2 d3 d4 d5
    by_cases hq : p x y = true
    · have HGo := hJ (HG.out hq)
      rw [hq] at HB
      go_wp2_with (go_at_fn g; refine (HB.out _ (blw2 _ _ _)).mono ?_; rintro e w' ⟨rfl, hb'⟩)
      go_roundw
      case rel => exact ⟨k + 1, by omega, by go_num, HGo, (hB.trans ((blw2 _ _ _).mono hB.size)).trans (hb'.mono (Nat.le_trans hB.size (blw2 _ _ _).size))⟩
      case measure => simp [intOf]; omega
    · have hq : p x y = false := by simpa using hq
      have HF := hJ (HH.out hq); rw [hq] at HB
      go_wp2_with (go_at_fn g; refine (HB.out _ (blw2 _ _ _)).mono ?_; rintro e w' ⟨rfl, hb'⟩)
      go_ret
      exact ⟨by rw [HF.out]; rfl, (hB.trans ((blw2 _ _ _).mono hB.size)).trans (hb'.mono (Nat.le_trans hB.size (blw2 _ _ _).size))⟩
  · have HF : Hid (kA2 p l l2 = true) := hJ (eq_done p (by rw [H.out.len, H2.out.len]) fun j hj => HT.out j (by rw [H.out.len] at hj; omega))
    go_wp2_with fail
    go_ret
    exact ⟨by rw [HF.out]; rfl, hB⟩
theorem kBM {g : FuncId} {fn : Func} {c : Code} (hf : Tryz.prog.funcs[g]? = some fn) (hname : (fn.name == "runtime.NumGoroutine") = false) (hb : fn.body = some c) : Ent1 g := enters_of hf hname hb
theorem idx_any {α : Type} (p : α → Bool) (l : List α) : decide (0 ≤ idx p l) = l.any p := by
 unfold idx
 cases l.any p with
 | true => rw [if_pos rfl]; exact decide_eq_true (by omega)
 | false => rw [if_neg (by simp)]; rfl
def rowB (r : Str) : Bool := r.toList.isEmpty || kBB r
def kAL (s : Shp) : Bool := rowB s.row && (decide (s.dims.length ≤ 6) && !s.dims.any (fun x => !kAD x))
def kAK (t : Typ) : Bool := kEG t.elem && kAL t.shape
def kAJ (s : Sch) : Bool := decide (s.params.length ≤ 12) && (decide (s.wh.length ≤ 60) && (!s.params.any (fun t => !kAK t) && (kAK s.result && !s.wh.any (fun x => !kAD x))))
def szH (s : Shp) : Prop := s.row.size ≤ 10000 ∧ ∀ x ∈ s.dims, szL x
def szT (t : Typ) : Prop := t.elem.size ≤ 10000 ∧ szH t.shape
def szS (s : Sch) : Prop := (∀ t ∈ s.params, szT t) ∧ szT s.result ∧ ∀ x ∈ s.wh, szL x
theorem kCS {S : Blk} {x : Lin} {cs : List Value} {w : World} (h : RLin.rd S w cs x) (hz : szL x) (E : Env w) :
 Calls Tryz.prog 80 #[.agg cs.toArray] w fun e w' => e = .returned (.bool (kAD x)) ∧ Below w.heap.size w w' := by
 obtain ⟨t, rfl, a, c, rfl, hs⟩ := h
 exact kDA x a _ c w hs hz E
theorem kB5 {S : Blk} {x : Lin} {cs : List Value} {w : World} (h : RLin.rd S w cs x) (hz : szL x) :
 Calls Tryz.prog 67 #[.agg cs.toArray] w fun e w' => e = .returned (.bool (kAD x)) ∧ Below w.heap.size w w' := by
 obtain ⟨t, rfl, a, c, rfl, hs⟩ := h
 exact ref04_Valid x a _ c w hs hz
theorem shape_Valid_1 {S : Blk} {x : Lin} {cs : List Value} {w : World} (h : RLin.rd S w cs x) (hz : szL x) (E : Env w) :
 Calls Tryz.prog 169 #[.agg cs.toArray] w fun e w' => e = .returned (.bool (!kAD x)) ∧ Below w.heap.size w w' := by
 have B0 : Hid (Below w.heap.size w (w.alloc (.cells cs.toArray 65))) := hJ ((Below.refl _ _).alloc (Nat.le_refl _) _)
 have HC := hJ (kCS (RLin.below h B0.out) hz (E.below B0.out)); obtain ⟨t, rfl, ht⟩ := h; clear ht E
 go_enter func169, ntmps169
 go_wp2_with fail
 refine (HC.out).mono ?_
 rintro e w1 ⟨rfl, hb⟩
 go_wp2_with fail
 go_ret
 exact ⟨rfl, B0.out.trans (hb.mono B0.out.size)⟩
theorem kF0 {S : Blk} {x : Lin} {cs : List Value} {w : World} (h : RLin.rd S w cs x) (hz : szL x) (E : Env w) :
 Calls Tryz.prog 79 #[.agg cs.toArray] w fun e w' => e = .returned (.bool (!kAD x)) ∧ Below w.heap.size w w' := by
 have B0 : Hid (Below w.heap.size w (w.alloc (.cells cs.toArray 65))) := hJ ((Below.refl _ _).alloc (Nat.le_refl _) _)
 have HC := hJ (kCS (RLin.below h B0.out) hz (E.below B0.out)); obtain ⟨t, rfl, ht⟩ := h; clear ht E
 go_enter func79, ntmps79
 go_wp2_with fail
 refine (HC.out).mono ?_
 rintro e w1 ⟨rfl, hb⟩
 go_wp2_with fail
 go_ret
 exact ⟨rfl, B0.out.trans (hb.mono B0.out.size)⟩
theorem contains_Lin {S : Blk} (l : List Lin) (a : Option Addr) (n c : Nat) (w : World) (h : Sl RLin S w a n c l) (g : FuncId) (cp : Array Value) (hen : Ent1 g) (p : Lin → Bool)
 (hp : ∀ (W : World) (x : Lin) (cs : List Value), Below w.heap.size w W → x ∈ l → RLin.rd S W cs x → Calls Tryz.prog g (#[.agg cs.toArray] ++ cp) W fun e w' => e = .returned (.bool (p x)) ∧ Below W.heap.size W w') :
 Calls Tryz.prog 78 #[.slice a n c, .func (.func g) #[] cp] w fun e w' => e = .returned (.bool (l.any p)) ∧ Below w.heap.size w w' := by
 have HC := hJ (index_Lin l a n c w h g cp hen p hp); have HA := hJ (idx_any p l); clear h hp
 generalize idx p l = q at *
 go_enter func78, ntmps78
 go_wp2_with fail
 refine (HC.out).mono ?_
 rintro e w1 ⟨rfl, hb⟩
 go_wp2_with fail
 go_ret
 exact ⟨by rw [← HA.out]; rfl, hb⟩
theorem contains_Typ {S : Blk} (l : List Typ) (a : Option Addr) (n c : Nat) (w : World) (h : Sl RTyp S w a n c l) (g : FuncId) (cp : Array Value) (hen : Ent1 g) (p : Typ → Bool)
 (hp : ∀ (W : World) (x : Typ) (cs : List Value), Below w.heap.size w W → x ∈ l → RTyp.rd S W cs x → Calls Tryz.prog g (#[.agg cs.toArray] ++ cp) W fun e w' => e = .returned (.bool (p x)) ∧ Below W.heap.size W w') :
 Calls Tryz.prog 77 #[.slice a n c, .func (.func g) #[] cp] w fun e w' => e = .returned (.bool (l.any p)) ∧ Below w.heap.size w w' := by
 have HC := hJ (index_Typ l a n c w h g cp hen p hp); have HA := hJ (idx_any p l); clear h hp
 generalize idx p l = q at *
 go_enter func77, ntmps77
 go_wp2_with fail
 refine (HC.out).mono ?_
 rintro e w1 ⟨rfl, hb⟩
 go_wp2_with fail
 go_ret
 exact ⟨by rw [← HA.out]; rfl, hb⟩
theorem kDJ {S : Blk} {s : Shp} {cs : List Value} {w : World} (h : RShp.rd S w cs s) (hz : szH s) (E : Env w) :
 Calls Tryz.prog 128 #[.agg cs.toArray] w fun e w' => e = .returned (.bool (kAL s)) ∧ Below w.heap.size w w' := by
 obtain ⟨t, rfl, a, c, rfl, hs⟩ := h
 have HN : Hid (kAL s = (rowB s.row && (decide (s.dims.length ≤ 6) && !s.dims.any (fun x => !kAD x)))) := hJ rfl
 have HROW : Hid (rowB s.row = (s.row.toList.isEmpty || kBB s.row)) := hJ rfl
 have hrz : s.row.size ≤ 281474976710656 := Nat.le_trans hz.1 (by decide)
 have hmx : s.dims.length ≤ 9223372036854775807 := by have := hs.cap; have := hs.max; unfold maxLen at this; omega
 have HS := hJ hs; have HZ := hJ hz; have EE := hJ E; clear hs hz E
 -- what goes through the dimensions, in whatever later world
 have HCt : Hid (∀ W, Below w.heap.size w W → Calls Tryz.prog 78 #[.slice a s.dims.length c, .func (.func 169) #[] #[]] W fun e w' => e = .returned (.bool (s.dims.any (fun x => !kAD x))) ∧ Below W.heap.size W w') :=
  hJ (fun W hW => contains_Lin s.dims a _ c W (HS.out.below hW) _ #[] (kBM func169 rfl rfl) _ (fun W' x cs hb hx hr => shape_Valid_1 hr (HZ.out.2 x hx) (EE.out.below (hW.trans (hb.mono hW.size)))))
 generalize s.dims.any (fun x => !kAD x) = bad at *
 generalize s.dims.length = n at *
 have B0 : Hid (Below w.heap.size w (w.alloc (.cells #[.string s.row, .slice a n c] 37))) := hJ ((Below.refl _ _).alloc (Nat.le_refl _) _)
 have c0 : (w.alloc (.cells #[.string s.row, .slice a n c] 37)).cell? ⟨w.heap.size, 0, none⟩ = some (.string s.row) := by simp [go_sem]
 have c1 : (w.alloc (.cells #[.string s.row, .slice a n c] 37)).cell? ⟨w.heap.size, 1, none⟩ = some (.slice a n c) := by simp [go_sem]
 have E0 := hJ (EE.out.below B0.out)
 by_cases he : s.row.toList.isEmpty = true
 · have HN : Hid (kAL s = (decide (n ≤ 6) && !bad)) := hJ (by rw [HN.out, HROW.out, he]; rfl)
   by_cases h6 : n ≤ 6
   · have q6 : decide ((n : Int) ≤ 6) = true := decide_eq_true (by omega)
     have HF : Hid (kAL s = !bad) := hJ (by rw [HN.out, decide_eq_true h6]; rfl)
     go_enter func128, ntmps128
     go_wp2_with fail
     refine (HCt.out _ B0.out).mono ?_
     rintro e w1 ⟨rfl, hb⟩
     go_wp2_with fail
     go_ret
     exact ⟨by rw [HF.out]; rfl, B0.out.trans (hb.mono B0.out.size)⟩
   · have q6 : decide ((n : Int) ≤ 6) = false := decide_eq_false (by omega)
     have HF : Hid (kAL s = false) := hJ (by rw [HN.out, decide_eq_false h6]; rfl)
     go_enter func128, ntmps128
     go_wp2_with fail
     go_ret
     exact ⟨by rw [HF.out]; rfl, B0.out⟩
 · have he : s.row.toList.isEmpty = false := by simpa using he
   by_cases hnm : kBB s.row = true
   · have HN : Hid (kAL s = (decide (n ≤ 6) && !bad)) := hJ (by rw [HN.out, HROW.out, he, hnm]; rfl)
     by_cases h6 : n ≤ 6
     · have q6 : decide ((n : Int) ≤ 6) = true := decide_eq_true (by omega)
       have HF : Hid (kAL s = !bad) := hJ (by rw [HN.out, decide_eq_true h6]; rfl)
       go_enter func128, ntmps128
       go_wp2_with fail
       refine (kBS _ hrz _ E0.out).mono ?_
       rintro e w1 ⟨rfl, hb⟩
       have d1 := kAC c1 _ hb; have hbb := B0.out.trans (hb.mono B0.out.size)
       go_wp2_with fail
       refine (HCt.out _ hbb).mono ?_
       rintro e w2 ⟨rfl, hb2⟩
       go_wp2_with fail
       go_ret
       exact ⟨by rw [HF.out]; rfl, hbb.trans (hb2.mono hbb.size)⟩
     · have q6 : decide ((n : Int) ≤ 6) = false := decide_eq_false (by omega)
       have HF : Hid (kAL s = false) := hJ (by rw [HN.out, decide_eq_false h6]; rfl)
       go_enter func128, ntmps128
       go_wp2_with fail
       refine (kBS _ hrz _ E0.out).mono ?_
       rintro e w1 ⟨rfl, hb⟩
       have d1 := kAC c1 _ hb
       go_wp2_with fail
       go_ret
       exact ⟨by rw [HF.out]; rfl, B0.out.trans (hb.mono B0.out.size)⟩
   · have hnm : kBB s.row = false := by simpa using hnm
     have HF : Hid (kAL s = false) := hJ (by rw [HN.out, HROW.out, he, hnm]; rfl)
     go_enter func128, ntmps128
     go_wp2_with fail
     refine (kBS _ hrz _ E0.out).mono ?_
     rintro e w1 ⟨rfl, hb⟩
     go_wp2_with fail
     go_ret
     exact ⟨by rw [HF.out]; rfl, B0.out.trans (hb.mono B0.out.size)⟩
theorem kEK {S : Blk} {x : Typ} {cs : List Value} {w : World} (h : RTyp.rd S w cs x) (hz : szT x) (E : Env w) :
 Calls Tryz.prog 76 #[.agg cs.toArray] w fun e w' => e = .returned (.bool (kAK x)) ∧ Below w.heap.size w w' := by
 obtain ⟨t, rfl, ht⟩ := h
 have HN : Hid (kAK x = (((x.elem.toList == [105, 110, 116]) || ((x.elem.toList == [98, 111, 111, 108]) || kAV x.elem)) && kAL x.shape)) := hJ rfl
 have hez : x.elem.size ≤ 281474976710656 := Nat.le_trans hz.1 (by decide)
 have HT := hJ ht; have HZ := hJ hz.2; have EE := hJ E; clear ht hz E
 have HV : Hid (∀ W, Below w.heap.size w W → Calls Tryz.prog 128 #[.agg #[.string x.shape.row, t]] W fun e w' => e = .returned (.bool (kAL x.shape)) ∧ Below W.heap.size W w') :=
  hJ (fun W hW => kDJ (RShp.below (S := S) (w := w) ⟨t, rfl, HT.out⟩ hW) HZ.out (EE.out.below hW))
 have B0 : Hid (Below w.heap.size w (w.alloc (.cells #[.string x.elem, .string x.shape.row, t] 39))) := hJ ((Below.refl _ _).alloc (Nat.le_refl _) _)
 have c0 : (w.alloc (.cells #[.string x.elem, .string x.shape.row, t] 39)).cell? ⟨w.heap.size, 0, none⟩ = some (.string x.elem) := by simp [go_sem]
 have c1 : (w.alloc (.cells #[.string x.elem, .string x.shape.row, t] 39)).cell? ⟨w.heap.size, 1, none⟩ = some (.string x.shape.row) := by simp [go_sem]
 have c2 : (w.alloc (.cells #[.string x.elem, .string x.shape.row, t] 39)).cell? ⟨w.heap.size, 2, none⟩ = some t := by simp [go_sem]
 by_cases h1 : (x.elem.toList == [105, 110, 116]) = true
 · have HF : Hid (kAK x = kAL x.shape) := hJ (by rw [HN.out, h1]; rfl)
   go_enter func76, ntmps76
   go_wp2_with fail
   refine (HV.out _ B0.out).mono ?_
   rintro e w1 ⟨rfl, hb⟩
   go_wp2_with fail
   go_ret
   exact ⟨by rw [HF.out]; rfl, B0.out.trans (hb.mono B0.out.size)⟩
 have h1 : (x.elem.toList == [105, 110, 116]) = false := by simpa using h1
 by_cases h2 : (x.elem.toList == [98, 111, 111, 108]) = true
 · have HF : Hid (kAK x = kAL x.shape) := hJ (by rw [HN.out, h1, h2]; rfl)
   go_enter func76, ntmps76
   go_wp2_with fail
   refine (HV.out _ B0.out).mono ?_
   rintro e w1 ⟨rfl, hb⟩
   go_wp2_with fail
   go_ret
   exact ⟨by rw [HF.out]; rfl, B0.out.trans (hb.mono B0.out.size)⟩
 have h2 : (x.elem.toList == [98, 111, 111, 108]) = false := by simpa using h2
 by_cases h3 : kAV x.elem = true
 · have HF : Hid (kAK x = kAL x.shape) := hJ (by rw [HN.out, h1, h2, h3]; rfl)
   go_enter func76, ntmps76
   go_wp2_with fail
   refine (kCP _ hez _).mono ?_
   rintro e w1 ⟨rfl, hb⟩
   have d1 := kAC c1 _ hb; have d2 := kAC c2 _ hb; have hbb := B0.out.trans (hb.mono B0.out.size)
   go_wp2_with fail
   refine (HV.out _ hbb).mono ?_
   rintro e w2 ⟨rfl, hb2⟩
   go_wp2_with fail
   go_ret
   exact ⟨by rw [HF.out]; rfl, hbb.trans (hb2.mono hbb.size)⟩
 · have h3 : kAV x.elem = false := by simpa using h3
   have HF : Hid (kAK x = false) := hJ (by rw [HN.out, h1, h2, h3]; rfl)
   go_enter func76, ntmps76
   go_wp2_with fail
   refine (kCP _ hez _).mono ?_
   rintro e w1 ⟨rfl, hb⟩
   go_wp2_with fail
   go_ret
   exact ⟨by rw [HF.out]; rfl, B0.out.trans (hb.mono B0.out.size)⟩
theorem kF1 {S : Blk} {x : Typ} {cs : List Value} {w : World} (h : RTyp.rd S w cs x) (hz : szT x) (E : Env w) :
 Calls Tryz.prog 75 #[.agg cs.toArray] w fun e w' => e = .returned (.bool (!kAK x)) ∧ Below w.heap.size w w' := by
 have B0 : Hid (Below w.heap.size w (w.alloc (.cells cs.toArray 39))) := hJ ((Below.refl _ _).alloc (Nat.le_refl _) _)
 have HC := hJ (kEK (RTyp.below h B0.out) hz (E.below B0.out)); obtain ⟨t, rfl, ht⟩ := h; clear ht E
 go_enter func75, ntmps75
 go_wp2_with fail
 refine (HC.out).mono ?_
 rintro e w1 ⟨rfl, hb⟩
 go_wp2_with fail
 go_ret
 exact ⟨rfl, B0.out.trans (hb.mono B0.out.size)⟩
theorem kBX {S : Blk} {x : Sch} {cs : List Value} {w : World} (h : RSch.rd S w cs x) (hz : szS x) (E : Env w) :
 Calls Tryz.prog 36 #[.agg cs.toArray] w fun e w' => e = .returned (.bool (kAJ x)) ∧ Below w.heap.size w w' := by
 obtain ⟨pv, t, qv, rfl, ⟨ap, cp, rfl, hp⟩, ht, ⟨aq, cq, rfl, hq⟩⟩ := h
 have HN : Hid (kAJ x = (decide (x.params.length ≤ 12) && (decide (x.wh.length ≤ 60) && (!x.params.any (fun t => !kAK t) && (kAK x.result && !x.wh.any (fun x => !kAD x)))))) := hJ rfl
 have hmx : x.params.length ≤ 9223372036854775807 := by have := hp.cap; have := hp.max; unfold maxLen at this; omega
 have hmy : x.wh.length ≤ 9223372036854775807 := by have := hq.cap; have := hq.max; unfold maxLen at this; omega
 have HZ := hJ hz; have EE := hJ E; have HT := hJ ht; have HP := hJ hp; have HQ := hJ hq; clear hz E ht hp hq
 have HV : Hid (∀ W, Below w.heap.size w W → Calls Tryz.prog 76 #[.agg #[.string x.result.elem, .string x.result.shape.row, t]] W fun e w' => e = .returned (.bool (kAK x.result)) ∧ Below W.heap.size W w') :=
  hJ (fun W hW => kEK (RTyp.below (S := S) (w := w) ⟨t, rfl, HT.out⟩ hW) HZ.out.2.1 (EE.out.below hW))
 have HCp : Hid (∀ W, Below w.heap.size w W → Calls Tryz.prog 77 #[.slice ap x.params.length cp, .func (.func 75) #[] #[]] W fun e w' => e = .returned (.bool (x.params.any (fun t => !kAK t))) ∧ Below W.heap.size W w') :=
  hJ (fun W hW => contains_Typ x.params ap _ cp W (HP.out.below hW) _ #[] (kBM func75 rfl rfl) _ (fun W' x cs hb hx hr => kF1 hr (HZ.out.1 x hx) (EE.out.below (hW.trans (hb.mono hW.size)))))
 have HCq : Hid (∀ W, Below w.heap.size w W → Calls Tryz.prog 78 #[.slice aq x.wh.length cq, .func (.func 79) #[] #[]] W fun e w' => e = .returned (.bool (x.wh.any (fun x => !kAD x))) ∧ Below W.heap.size W w') :=
  hJ (fun W hW => contains_Lin x.wh aq _ cq W (HQ.out.below hW) _ #[] (kBM func79 rfl rfl) _ (fun W' x cs hb hx hr => kF0 hr (HZ.out.2.2 x hx) (EE.out.below (hW.trans (hb.mono hW.size)))))
 generalize x.params.any (fun t => !kAK t) = badp at *
 generalize x.wh.any (fun x => !kAD x) = badq at *
 generalize kAK x.result = okr at *
 generalize x.params.length = np at *
 generalize x.wh.length = nq at *
 have B0 : Hid (Below w.heap.size w (w.alloc (.cells #[.slice ap np cp, .string x.result.elem, .string x.result.shape.row, t, .slice aq nq cq] 41))) := hJ ((Below.refl _ _).alloc (Nat.le_refl _) _)
 have c0 : (w.alloc (.cells #[.slice ap np cp, .string x.result.elem, .string x.result.shape.row, t, .slice aq nq cq] 41)).cell? ⟨w.heap.size, 0, none⟩ = some (.slice ap np cp) := by simp [go_sem]
 have c1 : (w.alloc (.cells #[.slice ap np cp, .string x.result.elem, .string x.result.shape.row, t, .slice aq nq cq] 41)).cell? ⟨w.heap.size, 1, none⟩ = some (.string x.result.elem) := by simp [go_sem]
 have c2 : (w.alloc (.cells #[.slice ap np cp, .string x.result.elem, .string x.result.shape.row, t, .slice aq nq cq] 41)).cell? ⟨w.heap.size, 2, none⟩ = some (.string x.result.shape.row) := by simp [go_sem]
 have c3 : (w.alloc (.cells #[.slice ap np cp, .string x.result.elem, .string x.result.shape.row, t, .slice aq nq cq] 41)).cell? ⟨w.heap.size, 3, none⟩ = some t := by simp [go_sem]
 have c4 : (w.alloc (.cells #[.slice ap np cp, .string x.result.elem, .string x.result.shape.row, t, .slice aq nq cq] 41)).cell? ⟨w.heap.size, 4, none⟩ = some (.slice aq nq cq) := by simp [go_sem]
 by_cases h12 : np ≤ 12
 case neg =>
  have q : decide ((np : Int) ≤ 12) = false := decide_eq_false (by omega)
  have HF : Hid (kAJ x = false) := hJ (by rw [HN.out, decide_eq_false h12]; rfl)
  go_enter func36, ntmps36
  go_wp2_with fail
  go_ret
  exact ⟨by rw [HF.out]; rfl, B0.out⟩
 have q12 : decide ((np : Int) ≤ 12) = true := decide_eq_true (by omega)
 by_cases h60 : nq ≤ 60
 case neg =>
  have q : decide ((nq : Int) ≤ 60) = false := decide_eq_false (by omega)
  have HF : Hid (kAJ x = false) := hJ (by rw [HN.out, decide_eq_false h60]; simp)
  go_enter func36, ntmps36
  go_wp2_with fail
  go_ret
  exact ⟨by rw [HF.out]; rfl, B0.out⟩
 have q60 : decide ((nq : Int) ≤ 60) = true := decide_eq_true (by omega)
 have HN : Hid (kAJ x = (!badp && (okr && !badq))) := hJ (by rw [HN.out, decide_eq_true h12, decide_eq_true h60]; rfl)
 go_enter func36, ntmps36
 go_wp2_with fail
 refine (HCp.out _ B0.out).mono ?_
 rintro e w1 ⟨rfl, hb⟩
 have hbb := hJ (B0.out.trans (hb.mono B0.out.size)); have d1 := kAC c1 _ hb; have d2 := kAC c2 _ hb; have d3 := kAC c3 _ hb; have d4 := kAC c4 _ hb; clear c0 c1 c2 c3 c4
 cases badp with
 | true =>
   go_wp2_with fail
   go_ret
   exact ⟨by rw [HN.out]; rfl, hbb.out⟩
 | false =>
   go_wp2_with fail
   refine (HV.out _ hbb.out).mono ?_
   rintro e w2 ⟨rfl, hb2⟩
   have hbb2 := hJ (hbb.out.trans (hb2.mono hbb.out.size)); have f4 := kAC d4 _ hb2
   cases okr with
   | false =>
     go_wp2_with fail
     go_ret
     exact ⟨by rw [HN.out]; rfl, hbb2.out⟩
   | true =>
     go_wp2_with fail
     refine (HCq.out _ hbb2.out).mono ?_
     rintro e w3 ⟨rfl, hb3⟩
     go_wp2_with fail
     go_ret
     exact ⟨by rw [HN.out]; rfl, hbb2.out.trans (hb3.mono hbb2.out.size)⟩
theorem kFI {α : Type} [Inhabited α] {p : α → Bool} {l : List α} {k : Nat} (hk : k < l.length) (h : p (l.getD k default) = false) : l.any (fun x => !p x) = true :=
 List.any_eq_true.2 ⟨_, kAI hk, by rw [h]; rfl⟩
theorem kD0 {α : Type} [Inhabited α] {p : α → Bool} {l : List α} (h : ∀ j, j < l.length → p (l.getD j default) = true) : l.any (fun x => !p x) = false := by
 rw [List.any_eq_false]
 intro x hx
 obtain ⟨i, hi⟩ := List.mem_iff_getElem?.1 hx
 have hlt : i < l.length := by
  rcases Nat.lt_or_ge i l.length with q | q
  · exact q
  · rw [List.getElem?_eq_none q] at hi; cases hi
 have := h i hlt
 rw [List.getD_eq_getElem?_getD, hi] at this
 simp only [Option.getD_some] at this
 rw [this]; decide
theorem upto {p : Nat → Prop} {k : Nat} (h : ∀ j, j < k → p j) (hk : p k) : ∀ j, j < k + 1 → p j := fun j hj => by
 rcases Nat.lt_or_ge j k with r | r
 · exact h j r
 · obtain rfl : j = k := by omega
   exact hk
theorem kEP {S : Blk} {s : Shp} {cs : List Value} {w : World} (h : RShp.rd S w cs s) (hz : szH s) :
 Calls Tryz.prog 115 #[.agg cs.toArray] w fun e w' => e = .returned (.bool (kAL s)) ∧ Below w.heap.size w w' := by
 obtain ⟨t, rfl, a, c, rfl, hs⟩ := h
 have HN : Hid (kAL s = ((s.row.toList.isEmpty || kBB s.row) && (decide (s.dims.length ≤ 6) && !s.dims.any (fun x => !kAD x)))) := hJ rfl
 have hrz : s.row.size ≤ 281474976710656 := Nat.le_trans hz.1 (by decide)
 have hmx : s.dims.length ≤ 9223372036854775807 := by have := hs.cap; have := hs.max; unfold maxLen at this; omega
 have HZ := hJ hz; clear hz
 have B0 : Hid (Below w.heap.size w (w.alloc (.cells #[.string s.row, .slice a s.dims.length c] 37))) := hJ ((Below.refl _ _).alloc (Nat.le_refl _) _)
 have c0 : (w.alloc (.cells #[.string s.row, .slice a s.dims.length c] 37)).cell? ⟨w.heap.size, 0, none⟩ = some (.string s.row) := by simp [go_sem]
 have c1 : (w.alloc (.cells #[.string s.row, .slice a s.dims.length c] 37)).cell? ⟨w.heap.size, 1, none⟩ = some (.slice a s.dims.length c) := by simp [go_sem]
 have HS := hJ (hs.below B0.out); clear hs
 generalize hn : s.dims.length = n at *
 have HL := hJ hn; clear hn
 go_enter func115, ntmps115
 go_wp2_with fail
 generalize (w.alloc (.cells #[.string s.row, .slice a n c] 37)) = W at *
 go_loopw [3] (fun i wr => ∃ k : Nat, k ≤ n ∧ i = .int .i64 k ∧ Hid (∀ j, j < k → kAD (s.dims.getD j default) = true) ∧ Below W.heap.size W wr) (fun i _ => n - (intOf i).toNat)
 case atStart => exact ⟨0, Nat.zero_le _, rfl, fun j hj => absurd hj (by omega), Below.refl _ _⟩
 case round =>
  obtain ⟨k, hk, rfl, HT, hB⟩ := hrel; have d1 := kAC c1 _ hB
  by_cases hlt : k < n
  · obtain ⟨b, off, rfl, hbW, _⟩ := HS.out.form k hlt
    have HK : Hid (k < s.dims.length) := hJ (by rw [HL.out]; exact hlt)
    have HR := hJ (HS.out.below hB); obtain ⟨t, hr, hd, e0, e1⟩ := HR.out.lin k hlt; have HC := hJ (kB5 hr (HZ.out.2 _ (kAI HK.out)))
    by_cases hq : kAD (s.dims.getD k default) = true
    · have HGo := hJ (upto HT.out hq)
      rw [hq] at HC; clear hd hr hq c0 c1
      generalize s.dims.getD k default = x at *
      go_wp2_with fail
      refine (HC.out).mono ?_
      rintro e w1 ⟨rfl, hb⟩
      go_wp2_with fail
      go_roundw
      case rel => exact ⟨k + 1, by omega, by go_num, HGo, hB.trans (hb.mono hB.size)⟩
      case measure => simp [intOf]; omega
    · have hq : kAD (s.dims.getD k default) = false := by simpa using hq
      have HF : Hid (kAL s = false) := hJ (by rw [HN.out, kFI HK.out hq]; simp)
      rw [hq] at HC; clear hd hr hq c0 c1
      generalize s.dims.getD k default = x at *
      go_wp2_with fail
      refine (HC.out).mono ?_
      rintro e w1 ⟨rfl, hb⟩
      go_wp2_with fail
      go_ret
      exact ⟨by rw [HF.out]; rfl, B0.out.trans ((hB.trans (hb.mono hB.size)).mono B0.out.size)⟩
  · have HN : Hid (kAL s = ((s.row.toList.isEmpty || kBB s.row) && decide (n ≤ 6))) := hJ (by
     rw [HN.out, kD0 (fun j hj => HT.out j (by rw [HL.out] at hj; omega))]
     simp)
    have d0 := kAC c0 _ hB; clear c0 c1
    by_cases h6 : n ≤ 6
    case neg =>
     have q6 : decide ((n : Int) ≤ 6) = false := decide_eq_false (by omega)
     have HF : Hid (kAL s = false) := hJ (by rw [HN.out, decide_eq_false h6]; simp)
     go_wp2_with fail
     go_ret
     exact ⟨by rw [HF.out]; rfl, B0.out.trans (hB.mono B0.out.size)⟩
    have q6 : decide ((n : Int) ≤ 6) = true := decide_eq_true (by omega)
    by_cases he : s.row.toList.isEmpty = true
    · have HF : Hid (kAL s = true) := hJ (by rw [HN.out, decide_eq_true h6, he]; rfl)
      go_wp2_with fail
      go_ret
      exact ⟨by rw [HF.out]; rfl, B0.out.trans (hB.mono B0.out.size)⟩
    · have he : s.row.toList.isEmpty = false := by simpa using he
      have HF : Hid (kAL s = kBB s.row) := hJ (by rw [HN.out, decide_eq_true h6, he]; simp)
      go_wp2_with fail
      refine (kCD _ _ hrz).mono ?_
      rintro e _ ⟨rfl, rfl⟩
      go_wp2_with fail
      go_ret
      exact ⟨by rw [HF.out]; rfl, B0.out.trans (hB.mono B0.out.size)⟩
theorem kF7 {S : Blk} {x : Typ} {cs : List Value} {w : World} (h : RTyp.rd S w cs x) (hz : szT x) :
 Calls Tryz.prog 66 #[.agg cs.toArray] w fun e w' => e = .returned (.bool (kAK x)) ∧ Below w.heap.size w w' := by
 obtain ⟨t, rfl, ht⟩ := h
 have HN : Hid (kAK x = (kEG x.elem && kAL x.shape)) := hJ rfl
 have hez : x.elem.size ≤ 281474976710656 := Nat.le_trans hz.1 (by decide)
 have HT := hJ ht; have HZ := hJ hz.2; clear ht hz
 have HV : Hid (∀ W, Below w.heap.size w W → Calls Tryz.prog 115 #[.agg #[.string x.shape.row, t]] W fun e w' => e = .returned (.bool (kAL x.shape)) ∧ Below W.heap.size W w') :=
  hJ (fun W hW => kEP (RShp.below (S := S) (w := w) ⟨t, rfl, HT.out⟩ hW) HZ.out)
 have B0 : Hid (Below w.heap.size w (w.alloc (.cells #[.string x.elem, .string x.shape.row, t] 39))) := hJ ((Below.refl _ _).alloc (Nat.le_refl _) _)
 have c0 : (w.alloc (.cells #[.string x.elem, .string x.shape.row, t] 39)).cell? ⟨w.heap.size, 0, none⟩ = some (.string x.elem) := by simp [go_sem]
 have c1 : (w.alloc (.cells #[.string x.elem, .string x.shape.row, t] 39)).cell? ⟨w.heap.size, 1, none⟩ = some (.string x.shape.row) := by simp [go_sem]
 have c2 : (w.alloc (.cells #[.string x.elem, .string x.shape.row, t] 39)).cell? ⟨w.heap.size, 2, none⟩ = some t := by simp [go_sem]
 by_cases h3 : kEG x.elem = true
 · have HF : Hid (kAK x = kAL x.shape) := hJ (by rw [HN.out, h3]; rfl)
   go_enter func66, ntmps66
   go_wp2_with fail
   refine (ref11_Elem _ hez _).mono ?_
   rintro e _ ⟨rfl, rfl⟩
   go_wp2_with fail
   refine (HV.out _ B0.out).mono ?_
   rintro e w1 ⟨rfl, hb⟩
   go_wp2_with fail
   go_ret
   exact ⟨by rw [HF.out]; rfl, B0.out.trans (hb.mono B0.out.size)⟩
 · have h3 : kEG x.elem = false := by simpa using h3
   have HF : Hid (kAK x = false) := hJ (by rw [HN.out, h3]; rfl)
   go_enter func66, ntmps66
   go_wp2_with fail
   refine (ref11_Elem _ hez _).mono ?_
   rintro e _ ⟨rfl, rfl⟩
   go_wp2_with fail
   go_ret
   exact ⟨by rw [HF.out]; rfl, B0.out⟩
theorem kCC {α : Type} {R : Rep α} {P : Program} {T E : TypeId} {bytes : Nat} (he : ElemOf P T E R.size bytes) {ops : Array Oper} {o : Oper} {a : Act} {K : Act → World → Prop} {Q : Exit → Act → World → Prop} {w : World} {C : Prop} (hgd : o.guard = none) (s x : Operand)
 (ho : o.op = .call { callee := .builtin .append, args := #[s, x], argTypes := #[T, T] }) {S : Blk} (base : Nat) (v : Value) (l : List α) (hs : a.eval s = v) (hown : Own R E S w base v l) (b : Nat) (y : α) (cs : List Value)
 (hx : a.eval x = .slice (some ⟨b, 0, none⟩) 1 1) (hy : R.rd (fun k => S k ∧ v.ownBlock ≠ some k) w cs y) (hc : ∀ j u, cs[j]? = some u → w.cell? ⟨b, j, none⟩ = some u) (hlen : (l.length + 1) * bytes ≤ 140737488355328) (hmax : l.length + 1 ≤ maxLen) (hbase : base ≤ w.heap.size)
 (h : ∀ v' w', Own R E S w' base v' (l ++ [y]) → Below base w w' → Kp v v' w w' → K (a.put o.dst v') w') : if Region.wanted o (yielded ops a.tmps) = true then Oper.wp P o a w K Q else C := by
 have hw : Region.wanted o (yielded ops a.tmps) = true := by simp [Region.wanted, hgd]
 rw [if_pos hw]
 obtain ⟨v', w', h1, h2, h3, h4⟩ := hown.run_app he (l' := [y]) o.type (some ⟨b, 0, none⟩) 1 1 rfl (by intro h; cases h) (fun i z hz => by
  cases i with
  | zero => simp at hz; subst hz; exact ⟨b, 0, cs, rfl, hy, fun j u hu => by rw [Nat.zero_add, Nat.zero_mul, Nat.zero_add]; exact hc j u hu⟩
  | succ i => simp at hz) hlen hmax hbase
 unfold Oper.wp
 simp [execOp, ho, resolve, invoke, builtin, hs, hx, h1, Result.andThen]
 exact h v' w' h2 h3 h4
theorem step_sl {α : Type} {R : Rep α} {P : Program} {T E : TypeId} {bytes : Nat} (he : ElemOf P T E R.size bytes) {ops : Array Oper} {o : Oper} {a : Act} {K : Act → World → Prop} {Q : Exit → Act → World → Prop} {w : World} {C : Prop} (hgd : o.guard = none) (s x : Operand)
 (ho : o.op = .call { callee := .builtin .append, args := #[s, x], argTypes := #[T, T] }) {S : Blk} (base : Nat) (v : Value) (l l' : List α) (hs : a.eval s = v) (hown : Own R E S w base v l) (ao : Option Addr) (m c : Nat)
 (hx : a.eval x = .slice ao m c) (hy : Sl R (fun k => S k ∧ v.ownBlock ≠ some k) w ao m c l') (hlen : (l.length + m) * bytes ≤ 140737488355328) (hmax : l.length + m ≤ maxLen) (hbase : base ≤ w.heap.size)
 (h : ∀ v' w', Own R E S w' base v' (l ++ l') → Below base w w' → Kp v v' w w' → K (a.put o.dst v') w') : if Region.wanted o (yielded ops a.tmps) = true then Oper.wp P o a w K Q else C := by
 have hw : Region.wanted o (yielded ops a.tmps) = true := by simp [Region.wanted, hgd]
 rw [if_pos hw]
 obtain ⟨v', w', h1, h2, h3, h4⟩ := hown.run_app he (l' := l') o.type ao m c hy.len hy.nil (fun i z hz => let ⟨b, off, cs, e, _, r, q⟩ := hy.at_ i z hz; ⟨b, off, cs, e, r, q⟩) hlen hmax hbase
 unfold Oper.wp
 simp [execOp, ho, resolve, invoke, builtin, hs, hx, h1, Result.andThen]
 exact h v' w' h2 h3 h4
theorem Own.fresh {α : Type} (R : Rep α) (E : TypeId) (S : Blk) (w : World) : Own R E S (w.alloc (.cells #[] E)) w.heap.size (.slice (some ⟨w.heap.size, 0, none⟩) 0 0) [] :=
 ⟨⟨[], rfl, ⟨by simp, .inr ⟨w.heap.size, 0, #[], rfl, Nat.le_refl _, by show (w.heap.push _)[w.heap.size]? = _; simp, Nat.le_refl _, by unfold maxLen; omega, by simp, by simp⟩⟩, fun i x h => by simp at h⟩⟩
theorem Own.at0 {α : Type} (R : Rep α) (E : TypeId) (S : Blk) {w : World} {g base : Nat} (h : w.heap[g]? = some (.cells #[] E (0, 0))) (hb : base ≤ g) : Own R E S w base (.slice (some ⟨g, 0, none⟩) 0 0) [] :=
 ⟨⟨[], rfl, ⟨by simp, .inr ⟨g, 0, #[], rfl, hb, h, Nat.le_refl _, by unfold maxLen; omega, by simp, by simp⟩⟩, fun i x h => by simp at h⟩⟩
theorem Sl.later {α : Type} {R : Rep α} {S : Blk} {w w' : World} {a : Option Addr} {n c : Nat} {l : List α} (h : Sl R S w a n c l) (hb : Below w.heap.size w w') {v : Value} (hv : ∀ k, v.ownBlock = some k → w.heap.size ≤ k) : Sl R (fun k => S k ∧ v.ownBlock ≠ some k) w' a n c l :=
 (h.mono fun k hk hlt => ⟨hk, fun e => by have := hv k e; omega⟩).below hb
theorem Rep.later {α : Type} (R : Rep α) {S : Blk} {w w' : World} {cs : List Value} {x : α} (h : R.rd S w cs x) (hb : Below w.heap.size w w') {v : Value} (hv : ∀ k, v.ownBlock = some k → w.heap.size ≤ k) : R.rd (fun k => S k ∧ v.ownBlock ≠ some k) w' cs x :=
 R.below (R.mono h fun k hk hlt => ⟨hk, fun e => by have := hv k e; omega⟩) hb
theorem Own.base_le {α : Type} {R : Rep α} {E : TypeId} {S : Blk} {w : World} {base : Nat} {v : Value} {l : List α} (h : Own R E S w base v l) : ∀ k, v.ownBlock = some k → base ≤ k := fun k hk => (h.block hk).1
theorem kAG (w : World) : w.drew.heap = w.heap := rfl
theorem kAE (w : World) (o : Obj) : (w.alloc o).heap = w.heap.push o := rfl
theorem cells3 {w : World} {g : Nat} {a b c : Value} {E : TypeId} {m : Nat × Nat} (h : w.heap[g]? = some (.cells #[a, b, c] E m)) : ∀ j u, [a, b, c][j]? = some u → w.cell? ⟨g, j, none⟩ = some u := by
 intro j u hu
 match j, hu with
 | 0, hu => simp at hu; subst hu; simp [World.cell?, h]
 | 1, hu => simp at hu; subst hu; simp [World.cell?, h]
 | 2, hu => simp at hu; subst hu; simp [World.cell?, h]
theorem kA4 (E : TypeId) {w : World} {g : Nat} {cs : List Value} (h : w.heap[g]? = some (.cells cs.toArray E (0, 0))) : ∀ j u, cs[j]? = some u → w.cell? ⟨g, j, none⟩ = some u := by
 intro j u hu
 simp [World.cell?, h, hu]
theorem kGE : ElemOf Tryz.prog 34 39 RTyp.size 56 := ⟨by kernel_rfl, by kernel_rfl⟩
theorem kD8 {S : Blk} {x : Sch} {cs : List Value} {w : World} (h : RSch.rd S w cs x) (hn : x.params.length ≤ 1000000) :
 Calls Tryz.prog 33 #[.agg cs.toArray] w fun e w' => (∃ v, e = .returned v ∧ Own RTyp 39 S w' w.heap.size v (x.params ++ [x.result])) ∧ Below w.heap.size w w' := by
 obtain ⟨pv, t, qv, rfl, ⟨ap, cp, rfl, hp⟩, ht, ⟨aq, cq, rfl, hq⟩⟩ := h; have HP := hJ hp; have HT := hJ ht; clear hp ht hq
 have B0 : Hid (Below w.heap.size w (w.alloc (.cells #[.slice ap x.params.length cp, .string x.result.elem, .string x.result.shape.row, t, .slice aq x.wh.length cq] 41))) := hJ ((Below.refl _ _).alloc (Nat.le_refl _) _)
 have c0 : (w.alloc (.cells #[.slice ap x.params.length cp, .string x.result.elem, .string x.result.shape.row, t, .slice aq x.wh.length cq] 41)).cell? ⟨w.heap.size, 0, none⟩ = some (.slice ap x.params.length cp) := by simp [go_sem]
 have c1 : (w.alloc (.cells #[.slice ap x.params.length cp, .string x.result.elem, .string x.result.shape.row, t, .slice aq x.wh.length cq] 41)).cell? ⟨w.heap.size, 1, none⟩ = some (.string x.result.elem) := by simp [go_sem]
 have c2 : (w.alloc (.cells #[.slice ap x.params.length cp, .string x.result.elem, .string x.result.shape.row, t, .slice aq x.wh.length cq] 41)).cell? ⟨w.heap.size, 2, none⟩ = some (.string x.result.shape.row) := by simp [go_sem]
 have c3 : (w.alloc (.cells #[.slice ap x.params.length cp, .string x.result.elem, .string x.result.shape.row, t, .slice aq x.wh.length cq] 41)).cell? ⟨w.heap.size, 3, none⟩ = some t := by simp [go_sem]
 have hsz : w.heap.size < (w.alloc (.cells #[.slice ap x.params.length cp, .string x.result.elem, .string x.result.shape.row, t, .slice aq x.wh.length cq] 41)).heap.size := by simp
 go_enter func33, ntmps33
 go_wp2_with fail
 generalize (w.alloc (.cells #[.slice ap x.params.length cp, .string x.result.elem, .string x.result.shape.row, t, .slice aq x.wh.length cq] 41)) = W at *
 have HP := hJ (HP.out.below B0.out)
 have HT := hJ (HT.out.frame (fun k _ hk => B0.out.block k hk))
 have h0 : ∀ k, (Value.slice (some ⟨W.heap.size, 0, none⟩) 0 0).ownBlock = some k → W.heap.size ≤ k := by intro k e; simp [Value.ownBlock] at e; omega
 have h1 : ∀ k, (Value.slice (some ⟨W.heap.size + 1, 0, none⟩) 0 0).ownBlock = some k → W.heap.size ≤ k := by intro k e; simp [Value.ownBlock] at e; omega
 go_region_law (first
  | (refine step_sl kGE rfl (.tmp 3) (.tmp 5) rfl W.heap.size _ [] x.params rfl (Own.at0 RTyp _ S (by (simp only [kAG, kAE, Array.getElem?_push, Array.size_push]; simp)) (by simp)) ap _ cp rfl (HP.out.later (by go_grown) (by assumption)) (by simp; omega) (by unfold maxLen; simp; omega) (by simp <;> omega) ?_
     intro v4 w4 hown4 hb4 hk4
     change Kp (.slice (some ⟨_, 0, none⟩) 0 0) v4 _ w4 at hk4
     have hB4 : Below W.heap.size W w4 := Below.trans (by go_grown) hb4
     have e1 := kAC c1 _ hB4; have e2 := kAC c2 _ hB4
     have e3 := kAC c3 _ hB4)
  | (refine kCC kGE rfl (.tmp 6) (.tmp 9) rfl W.heap.size _ _ rfl (by first | exact hown4 | exact hown4.alloc _) _ x.result [.string x.result.elem, .string x.result.shape.row, t] rfl ?ry ?rc ?rl ?rm ?rb ?_
     case ry => first | exact Rep.later RTyp (w := W) (S := S) ⟨t, rfl, HT.out⟩ (by first | exact hB4 | exact hB4.alloc hB4.size _) hown4.base_le
     case rc => first | exact cells3 (E := 39) (m := (0, 0)) (by first | (simp only [kAG, kAE, Array.getElem?_push, Array.size_push]; simp) | exact (hk4.block _ (by simp <;> omega) (by simp [Value.ownBlock])).trans (by (simp only [kAG, kAE, Array.getElem?_push, Array.size_push]; simp)))
     case rl => first | (simp; omega)
     case rm => first | (unfold maxLen; simp; omega)
     case rb => first | exact hB4.size | exact (hB4.alloc hB4.size _).size
     intro v5 w5 hown5 hb5 hk5
     have hB5 : Below W.heap.size W w5 := Below.trans (by first | exact hB4 | exact hB4.alloc hB4.size _) hb5))
 all_goals go_wp2_with fail
 all_goals go_ret
 all_goals exact ⟨⟨v5, rfl, by have := hown5.lower (Nat.le_of_lt hsz); rwa [List.nil_append] at this⟩, B0.out.trans (hB5.mono B0.out.size)⟩
theorem kCU {a w : World} (h : Below a.heap.size a w) (o : Obj) : Below a.heap.size a (w.alloc o) := h.alloc h.size o
theorem kDG {a w : World} (h : Below a.heap.size a w) : Below a.heap.size a w.drew := h.drew
theorem kD3 : ElemOf Tryz.prog 51 9 RStr.size 16 := ⟨by kernel_rfl, by kernel_rfl⟩
theorem kAU {α : Type} [Inhabited α] {l : List α} {k : Nat} (h : k < l.length) : l.take (k + 1) = l.take k ++ [l.getD k default] := by
 rw [List.take_add_one, kCY h]; rfl
def kAN (x : Lin) : List Str := x.terms.map Coef.v
theorem kGA {S : Blk} (x : Lin) (a : Option Addr) (n c : Nat) (w : World) (h : Sl kBP S w a n c x.terms) (hn : n ≤ 1000000) :
 Calls Tryz.prog 102 #[.agg #[.int .i64 x.const, .slice a n c]] w fun e w' => (∃ v, e = .returned v ∧ Own RStr 9 (fun _ => False) w' w.heap.size v (kAN x)) ∧ Below w.heap.size w w' := by
 have H := hJ h; clear h
 have B0 : Hid (Below w.heap.size w (w.alloc (.cells #[.int .i64 x.const, .slice a n c] 65))) := hJ ((Below.refl _ _).alloc (Nat.le_refl _) _)
 have hbox : (w.alloc (.cells #[.int .i64 x.const, .slice a n c] 65)).cell? ⟨w.heap.size, 1, none⟩ = some (.slice a n c) := by simp [go_sem]
 go_enter func102, ntmps102
 go_wp2_with fail
 generalize (w.alloc (.cells #[.int .i64 x.const, .slice a n c] 65)) = W at *
 have H0 := hJ (H.out.below B0.out)
 go_loopw [3, 9] (fun v i wr => ∃ k : Nat, k ≤ n ∧ i = .int .i64 k ∧ Hid (Own RStr 9 (fun _ => False) wr W.heap.size v ((kAN x).take k)) ∧ Below W.heap.size W wr) (fun _ i _ => n - (intOf i).toNat)
 case atStart => exact ⟨0, Nat.zero_le _, rfl, Own.nil _ _ _ _ _, Below.refl _ _⟩
 case round =>
  obtain ⟨k, hk, rfl, HO, hB⟩ := hrel
  by_cases hlt : k < n
  · obtain ⟨b, off, rfl, hbW, _⟩ := H0.out.form k hlt
    have HR := hJ (H0.out.below hB); obtain ⟨c0, c1⟩ := HR.out.coef k hlt
    have HK : Hid (k < x.terms.length) := hJ (by rw [H.out.len]; exact hlt)
    have HV : Hid ((kAN x).take (k + 1) = (kAN x).take k ++ [(x.terms.getD k default).v]) := hJ (by
     unfold kAN
     rw [List.map_take.symm, List.map_take.symm, kAU HK.out, List.map_append]; rfl)
    have hvl : ((kAN x).take k).length = k := by
     rw [List.length_take]; unfold kAN; rw [List.length_map, H.out.len]; omega
    have HVL := hJ hvl; clear hvl
    generalize x.terms.getD k default = t at *
    go_wp2_with (at_builtin; refine kA8 kD3 rfl _ _ rfl W.heap.size _ _ rfl ((HO.out.alloc _).alloc _) _ (t.v) [.string t.v] rfl (rfl) (kA4 9 (by (simp only [kAG, kAE, Array.getElem?_push, Array.size_push]; simp))) (by rw [HVL.out]; omega) (by unfold maxLen; rw [HVL.out]; omega) (by have := hB.size; simp; omega) ?_; intro v9 w9 hown9 hb9 hk9)
    have hB9 : Below W.heap.size W w9 := Below.trans (by (repeat (first | assumption | exact Below.refl _ _ | exact Hid.out (by assumption) | refine kCU ?_ _ | refine kDG ?_))) hb9
    go_roundw
    case rel => exact ⟨k + 1, by omega, by go_num, hJ (by rw [HV.out]; exact hown9), hB9⟩
    case measure => simp [intOf]; omega
  · have HF : Hid ((kAN x).take k = kAN x) := hJ (by
     rw [List.take_of_length_le]; unfold kAN; rw [List.length_map, H.out.len]; omega)
    go_wp2_with fail
    go_ret
    exact ⟨⟨_, rfl, by have := HO.out.lower B0.out.size; rwa [HF.out] at this⟩, B0.out.trans (hB.mono B0.out.size)⟩
def kCK (a b : Coef) : Bool := seq a.v b.v && a.c == b.c
def kB3 (a b : Lin) : Bool := a.const == b.const && kA2 kCK a.terms b.terms
def kE1 (a b : Shp) : Bool := seq a.row b.row && kA2 kB3 a.dims b.dims
def kDD (a b : Typ) : Bool := seq a.elem b.elem && kE1 a.shape b.shape
def kFF (a b : Sch) : Bool := kA2 kDD a.params b.params && (kDD a.result b.result && kA2 kB3 a.wh b.wh)
theorem kGR (x y : Coef) (w : World) : (binOp .neq 62 (.agg #[.string x.v, .int .i64 x.c]) (.agg #[.string y.v, .int .i64 y.c])).run Tryz.prog w = .ok (.bool (!kCK x y)) w := by
 have hS : Tryz.prog.underlying 62 = some (.struct (Tryz.prog.fieldsOf 62)) := by kernel_rfl
 have hp : Tryz.prog.stoodInHeld 62 = false := by kernel_rfl
 have u3 := underlying3; have a3 := isAgg3; have u9 := underlying9; have a9 := isAgg9
 rw [run_neq_struct, show (10000 : Nat) = 9999 + 1 from rfl, run_equalIn_agg w 9999 62 _ _ hS hp]
 simp only [Program.fieldsOf, underlying62]
 go_simp
 unfold kCK seq
 by_cases h1 : x.v.toList = y.v.toList <;> by_cases h2 : x.c = y.c <;> simp [h1, h2]
theorem kD6 {S T : Blk} (l l2 : List Coef) (a a2 : Option Addr) (n n2 c c2 : Nat) (w : World) (h : Sl kBP S w a n c l) (h2 : Sl kBP T w a2 n2 c2 l2) :
 Calls Tryz.prog 113 #[.slice a n c, .slice a2 n2 c2] w fun e w' => e = .returned (.bool (kA2 kCK l l2)) ∧ Below w.heap.size w w' := by
 have H := hJ h; have H2 := hJ h2
 have hn : n ≤ 9223372036854775807 := by have := h.cap; have := h.max; unfold maxLen at this; omega
 have hn2 : n2 ≤ 9223372036854775807 := by have := h2.cap; have := h2.max; unfold maxLen at this; omega
 clear h h2
 by_cases hnn : n = n2
 case neg =>
  have HF : Hid (kA2 kCK l l2 = false) := hJ (eq_len _ (by rw [H.out.len, H2.out.len]; exact hnn))
  have q : ((n : Int) != (n2 : Int)) = true := bne_iff_ne.2 (by omega)
  go_enter func113, ntmps113
  go_wp2_with fail
  go_ret
  exact ⟨by rw [HF.out]; rfl, Below.refl _ _⟩
 subst hnn
 go_enter func113, ntmps113
 go_wp2_with fail
 go_loopw [13] (fun i wr => ∃ k : Nat, k ≤ n ∧ i = .int .i64 k ∧ Hid (∀ j, j < k → kCK (l.getD j default) (l2.getD j default) = true) ∧ Below w.heap.size w wr) (fun i _ => n - (intOf i).toNat)
 case atStart => exact ⟨0, Nat.zero_le _, rfl, fun j hj => absurd hj (by omega), Below.refl _ _⟩
 case round =>
  obtain ⟨k, hk, rfl, HT, hB⟩ := hrel
  by_cases hlt : k < n
  · obtain ⟨b, off, rfl, hbW, _⟩ := H.out.form k hlt
    obtain ⟨b2, off2, rfl, hbW2, _⟩ := H2.out.form k hlt
    have HK : Hid (k < l.length) := hJ (by rw [H.out.len]; exact hlt)
    have HK2 : Hid (k < l2.length) := hJ (by rw [H2.out.len]; exact hlt)
    have HR := hJ (H.out.below hB); have HR2 := hJ (H2.out.below hB); obtain ⟨c0, c1⟩ := HR.out.coef k hlt; obtain ⟨d0, d1⟩ := HR2.out.coef k hlt
    have HH : Hid (kCK (l.getD k default) (l2.getD k default) = false → kA2 kCK l l2 = false) := hJ (fun q => eq_stop _ HK.out HK2.out q)
    have HG : Hid (kCK (l.getD k default) (l2.getD k default) = true → ∀ j, j < k + 1 → kCK (l.getD j default) (l2.getD j default) = true) := hJ (fun q => upto HT.out q)
    have HE : Hid (kCK (l.getD k default) (l2.getD k default) = (((l.getD k default).v.toList == (l2.getD k default).v.toList) && ((l.getD k default).c == (l2.getD k default).c))) := hJ rfl
    generalize l.getD k default = x at *
    generalize l2.getD k default = y at *
    have c0 := Later.cell c0; have c1 := Later.cell c1; have d0 := Later.cell d0; have d1 := Later.cell d1
    have hgd : ∀ (o o2 : Operand) (xs ys : Array Value) w, (eqGuard .neq 62 o o2 (.agg xs) (.agg ys)).run Tryz.prog w = .ok () w := fun o o2 xs ys w => run_eqGuard_agg w .neq _ o o2 xs ys (by kernel_rfl)
    by_cases hq : kCK x y = true
    · have HGo := hJ (HG.out hq)
      have hbin : ∀ w, (binOp .neq 62 (.agg #[.string x.v, .int .i64 x.c]) (.agg #[.string y.v, .int .i64 y.c])).run Tryz.prog w = .ok (.bool false) w := fun w => by rw [kGR, hq]; rfl
      clear hq
      go_wp2_with fail
      refine kAB (by kernel_rfl) (by kernel_rfl) ?_
      repeat (go_big_quiet_step (fail))
      refine wpQuiet_nil ?_
      rintro _ ⟨t9, rfl⟩
      go_wp2_with fail
      go_roundw
      case rel => exact ⟨k + 1, by omega, by go_num, HGo, hB.trans (t9.b.mono hB.size)⟩
      case measure => simp [intOf]; omega
    · have hq : kCK x y = false := by simpa using hq
      have HF := hJ (HH.out hq)
      have hbin : ∀ w, (binOp .neq 62 (.agg #[.string x.v, .int .i64 x.c]) (.agg #[.string y.v, .int .i64 y.c])).run Tryz.prog w = .ok (.bool true) w := fun w => by rw [kGR, hq]; rfl
      clear hq
      go_wp2_with fail
      refine kAB (by kernel_rfl) (by kernel_rfl) ?_
      repeat (go_big_quiet_step (fail))
      refine wpQuiet_nil ?_
      rintro _ ⟨t9, rfl⟩
      go_wp2_with fail
      go_ret
      exact ⟨by rw [HF.out]; rfl, hB.trans (t9.b.mono hB.size)⟩
  · have HF : Hid (kA2 kCK l l2 = true) := hJ (eq_done _ (by rw [H.out.len, H2.out.len]) fun j hj => HT.out j (by rw [H.out.len] at hj; omega))
    go_wp2_with fail
    go_ret
    exact ⟨by rw [HF.out]; rfl, hB⟩
theorem eqLin_cases (a b : Lin) : kB3 a b = (a.const == b.const && kA2 kCK a.terms b.terms) := rfl
theorem types_same {S T : Blk} {x y : Lin} {cs ds : List Value} {w : World} (h : RLin.rd S w cs x) (h2 : RLin.rd T w ds y) :
 Calls Tryz.prog 65 #[.agg cs.toArray, .agg ds.toArray] w fun e w' => e = .returned (.bool (kB3 x y)) ∧ Below w.heap.size w w' := by
 obtain ⟨t, rfl, a, c, rfl, hs⟩ := h; obtain ⟨t2, rfl, a2, c2, rfl, hs2⟩ := h2; obtain ⟨B0, ya, yb, hW0⟩ := box2 w 65 [.int .i64 x.const, .slice a x.terms.length c] 65 [.int .i64 y.const, .slice a2 y.terms.length c2]; have xa0 := box0 ya 0 _ rfl; have xa1 := box0 ya 1 _ rfl; have xb0 := box0 yb 0 _ rfl; have xb1 := box0 yb 1 _ rfl; clear ya yb; have HC := hJ (kD6 x.terms y.terms a a2 _ _ c c2 _ (hs.below B0.out) (hs2.below B0.out)); have HN := hJ (eqLin_cases x y); clear hs hs2
 by_cases hc : x.const = y.const
 · have hcb : (x.const == y.const) = true := beq_iff_eq.2 hc
   have HF : Hid (kB3 x y = kA2 kCK x.terms y.terms) := hJ (by rw [HN.out, hcb]; rfl)
   clear hc
   go_enter func65, ntmps65
   go_wp2_with fail
   refine (HC.out).mono ?_
   rintro e w1 ⟨rfl, hb⟩
   go_wp2_with fail
   go_ret
   exact ⟨by rw [HF.out]; rfl, B0.out.trans (hb.mono B0.out.size)⟩
 · have hcb : (x.const == y.const) = false := beq_eq_false_iff_ne.2 hc
   have HF : Hid (kB3 x y = false) := hJ (by rw [HN.out, hcb]; rfl)
   clear hc
   go_enter func65, ntmps65
   go_wp2_with fail
   go_ret
   exact ⟨by rw [HF.out]; rfl, B0.out⟩
theorem shape_same {S T : Blk} {x y : Lin} {cs ds : List Value} {w : World} (h : RLin.rd S w cs x) (h2 : RLin.rd T w ds y) :
 Calls Tryz.prog 188 #[.agg cs.toArray, .agg ds.toArray] w fun e w' => e = .returned (.bool (kB3 x y)) ∧ Below w.heap.size w w' := by
 obtain ⟨t, rfl, a, c, rfl, hs⟩ := h; obtain ⟨t2, rfl, a2, c2, rfl, hs2⟩ := h2; obtain ⟨B0, ya, yb, hW0⟩ := box2 w 65 [.int .i64 x.const, .slice a x.terms.length c] 65 [.int .i64 y.const, .slice a2 y.terms.length c2]; have xa0 := box0 ya 0 _ rfl; have xa1 := box0 ya 1 _ rfl; have xb0 := box0 yb 0 _ rfl; have xb1 := box0 yb 1 _ rfl; clear ya yb; have HC := hJ (kD6 x.terms y.terms a a2 _ _ c c2 _ (hs.below B0.out) (hs2.below B0.out)); have HN := hJ (eqLin_cases x y); clear hs hs2
 by_cases hc : x.const = y.const
 · have hcb : (x.const == y.const) = true := beq_iff_eq.2 hc
   have HF : Hid (kB3 x y = kA2 kCK x.terms y.terms) := hJ (by rw [HN.out, hcb]; rfl)
   clear hc
   go_enter func188, ntmps188
   go_wp2_with fail
   refine (HC.out).mono ?_
   rintro e w1 ⟨rfl, hb⟩
   go_wp2_with fail
   go_ret
   exact ⟨by rw [HF.out]; rfl, B0.out.trans (hb.mono B0.out.size)⟩
 · have hcb : (x.const == y.const) = false := beq_eq_false_iff_ne.2 hc
   have HF : Hid (kB3 x y = false) := hJ (by rw [HN.out, hcb]; rfl)
   clear hc
   go_enter func188, ntmps188
   go_wp2_with fail
   go_ret
   exact ⟨by rw [HF.out]; rfl, B0.out⟩
theorem Sl.small {α : Type} {R : Rep α} {S : Blk} {w : World} {a : Option Addr} {n c : Nat} {l : List α} (h : Sl R S w a n c l) : n ≤ 9223372036854775807 := by
 have := h.cap; have := h.max; unfold maxLen at this; omega
theorem shape_Equal {S T : Blk} {x y : Shp} {cs ds : List Value} {w : World} (h : RShp.rd S w cs x) (h2 : RShp.rd T w ds y) :
 Calls Tryz.prog 136 #[.agg cs.toArray, .agg ds.toArray] w fun e w' => e = .returned (.bool (kE1 x y)) ∧ Below w.heap.size w w' := by
 obtain ⟨t, rfl, a, c, rfl, hs⟩ := h; obtain ⟨t2, rfl, a2, c2, rfl, hs2⟩ := h2; obtain ⟨B0, ya, yb, hW0⟩ := box2 w 37 [.string x.row, .slice a x.dims.length c] 37 [.string y.row, .slice a2 y.dims.length c2]; have xa0 := box0 ya 0 _ rfl; have xa1 := box0 ya 1 _ rfl; have xb0 := box0 yb 0 _ rfl; have xb1 := box0 yb 1 _ rfl; clear ya yb
 have HC := hJ (equal_Lin x.dims y.dims a a2 _ _ c c2 _ (hs.below B0.out) (hs2.below B0.out) _ (kBM func188 rfl rfl) kB3 (fun W x y cs ds _ _ _ h1 h2 => shape_same h1 h2))
 have HN : Hid (kE1 x y = ((x.row.toList == y.row.toList) && kA2 kB3 x.dims y.dims)) := hJ rfl
 clear hs hs2
 by_cases hc : (x.row.toList == y.row.toList) = true
 · have HF : Hid (kE1 x y = kA2 kB3 x.dims y.dims) := hJ (by rw [HN.out, hc]; rfl)
   go_enter func136, ntmps136
   go_wp2_with fail
   refine (HC.out).mono ?_
   rintro e w1 ⟨rfl, hb⟩
   go_wp2_with fail
   go_ret
   exact ⟨by rw [HF.out]; rfl, B0.out.trans (hb.mono B0.out.size)⟩
 · have hc : (x.row.toList == y.row.toList) = false := by simpa using hc
   have HF : Hid (kE1 x y = false) := hJ (by rw [HN.out, hc]; rfl)
   go_enter func136, ntmps136
   go_wp2_with fail
   go_ret
   exact ⟨by rw [HF.out]; rfl, B0.out⟩
theorem types_Equal {S T : Blk} {x y : Typ} {cs ds : List Value} {w : World} (h : RTyp.rd S w cs x) (h2 : RTyp.rd T w ds y) :
 Calls Tryz.prog 92 #[.agg cs.toArray, .agg ds.toArray] w fun e w' => e = .returned (.bool (kDD x y)) ∧ Below w.heap.size w w' := by
 obtain ⟨t, rfl, a, c, rfl, hs⟩ := h; obtain ⟨t2, rfl, a2, c2, rfl, hs2⟩ := h2; obtain ⟨B0, ya, yb, hW0⟩ := box2 w 39 [.string x.elem, .string x.shape.row, .slice a x.shape.dims.length c] 39 [.string y.elem, .string y.shape.row, .slice a2 y.shape.dims.length c2]; have xa0 := box0 ya 0 _ rfl; have xa1 := box0 ya 1 _ rfl; have xa2 := box0 ya 2 _ rfl; have xb0 := box0 yb 0 _ rfl; have xb1 := box0 yb 1 _ rfl; have xb2 := box0 yb 2 _ rfl; clear ya yb; have HC := hJ (shape_Equal (x := x.shape) (y := y.shape) (S := S) (T := T) (cs := [.string x.shape.row, .slice a x.shape.dims.length c]) (ds := [.string y.shape.row, .slice a2 y.shape.dims.length c2]) ⟨_, rfl, a, c, rfl, hs.below B0.out⟩ ⟨_, rfl, a2, c2, rfl, hs2.below B0.out⟩)
 have HN : Hid (kDD x y = ((x.elem.toList == y.elem.toList) && kE1 x.shape y.shape)) := hJ rfl
 clear hs hs2
 by_cases hc : (x.elem.toList == y.elem.toList) = true
 · have HF : Hid (kDD x y = kE1 x.shape y.shape) := hJ (by rw [HN.out, hc]; rfl)
   go_enter func92, ntmps92
   go_wp2_with fail
   refine (HC.out).mono ?_
   rintro e w1 ⟨rfl, hb⟩
   go_wp2_with fail
   go_ret
   exact ⟨by rw [HF.out]; rfl, B0.out.trans (hb.mono B0.out.size)⟩
 · have hc : (x.elem.toList == y.elem.toList) = false := by simpa using hc
   have HF : Hid (kDD x y = false) := hJ (by rw [HN.out, hc]; rfl)
   go_enter func92, ntmps92
   go_wp2_with fail
   go_ret
   exact ⟨by rw [HF.out]; rfl, B0.out⟩
theorem types_EqualScheme {S T : Blk} {x y : Sch} {cs ds : List Value} {w : World} (h : RSch.rd S w cs x) (h2 : RSch.rd T w ds y) :
 Calls Tryz.prog 45 #[.agg cs.toArray, .agg ds.toArray] w fun e w' => e = .returned (.bool (kFF x y)) ∧ Below w.heap.size w w' := by
 obtain ⟨_, _, _, rfl, ⟨ap, cp, rfl, hp⟩, ⟨at_, ct, rfl, ht⟩, ⟨aq, cq, rfl, hq⟩⟩ := h; obtain ⟨_, _, _, rfl, ⟨ap2, cp2, rfl, hp2⟩, ⟨at2, ct2, rfl, ht2⟩, ⟨aq2, cq2, rfl, hq2⟩⟩ := h2; obtain ⟨B0, ya, yb, hW0⟩ := box2 w 41 [.slice ap x.params.length cp, .string x.result.elem, .string x.result.shape.row, .slice at_ x.result.shape.dims.length ct, .slice aq x.wh.length cq] 41 [.slice ap2 y.params.length cp2, .string y.result.elem, .string y.result.shape.row, .slice at2 y.result.shape.dims.length ct2, .slice aq2 y.wh.length cq2]; have xa0 := box0 ya 0 _ rfl; have xa1 := box0 ya 1 _ rfl; have xa2 := box0 ya 2 _ rfl; have xa3 := box0 ya 3 _ rfl; have xa4 := box0 ya 4 _ rfl; have xb0 := box0 yb 0 _ rfl; have xb1 := box0 yb 1 _ rfl; have xb2 := box0 yb 2 _ rfl; have xb3 := box0 yb 3 _ rfl; have xb4 := box0 yb 4 _ rfl; clear ya yb; have HP := hJ hp; have HP2 := hJ hp2; have HT := hJ ht; have HT2 := hJ ht2; have HQ := hJ hq; have HQ2 := hJ hq2; clear hp hp2 ht ht2 hq hq2
 have HC1 : Hid (∀ W, Below w.heap.size w W → Calls Tryz.prog 91 #[.slice ap x.params.length cp, .slice ap2 y.params.length cp2, .func (.func 92) #[] #[]] W fun e w' => e = .returned (.bool (kA2 kDD x.params y.params)) ∧ Below W.heap.size W w') :=
  hJ (fun W hW => equal_Typ x.params y.params ap ap2 _ _ cp cp2 W (HP.out.below hW) (HP2.out.below hW) _ (kBM func92 rfl rfl) kDD (fun W x y cs ds _ _ _ h1 h2 => types_Equal h1 h2))
 have HC2 : Hid (∀ W, Below w.heap.size w W → Calls Tryz.prog 92 #[.agg #[.string x.result.elem, .string x.result.shape.row, .slice at_ x.result.shape.dims.length ct], .agg #[.string y.result.elem, .string y.result.shape.row, .slice at2 y.result.shape.dims.length ct2]] W fun e w' => e = .returned (.bool (kDD x.result y.result)) ∧ Below W.heap.size W w') :=
  hJ (fun W hW => types_Equal (S := S) (T := T) ⟨_, rfl, _, _, rfl, HT.out.below hW⟩ ⟨_, rfl, _, _, rfl, HT2.out.below hW⟩)
 have HC3 : Hid (∀ W, Below w.heap.size w W → Calls Tryz.prog 93 #[.slice aq x.wh.length cq, .slice aq2 y.wh.length cq2, .func (.func 65) #[] #[]] W fun e w' => e = .returned (.bool (kA2 kB3 x.wh y.wh)) ∧ Below W.heap.size W w') :=
  hJ (fun W hW => equal_Lin x.wh y.wh aq aq2 _ _ cq cq2 W (HQ.out.below hW) (HQ2.out.below hW) _ (kBM func65 rfl rfl) kB3 (fun W x y cs ds _ _ _ h1 h2 => types_same h1 h2))
 have HN : Hid (kFF x y = (kA2 kDD x.params y.params && (kDD x.result y.result && kA2 kB3 x.wh y.wh))) := hJ rfl
 generalize kA2 kDD x.params y.params = r1 at *
 generalize kDD x.result y.result = r2 at *
 generalize kA2 kB3 x.wh y.wh = r3 at *
 go_enter func45, ntmps45
 go_wp2_with fail
 refine (HC1.out _ B0.out).mono ?_
 rintro e w1 ⟨rfl, hb⟩
 have hbb := hJ (B0.out.trans (hb.mono B0.out.size)); have e1 := kAC xa1 _ hb; have e2 := kAC xa2 _ hb; have e3 := kAC xa3 _ hb; have e4 := kAC xa4 _ hb; have f1 := kAC xb1 _ hb; have f2 := kAC xb2 _ hb; have f3 := kAC xb3 _ hb; have f4 := kAC xb4 _ hb; clear xa0 xa1 xa2 xa3 xa4 xb0 xb1 xb2 xb3 xb4
 cases r1 with
 | false =>
   go_wp2_with fail
   go_ret
   exact ⟨by rw [HN.out]; rfl, hbb.out⟩
 | true =>
   go_wp2_with fail
   refine (HC2.out _ hbb.out).mono ?_
   rintro e w2 ⟨rfl, hb2⟩
   have hbb2 := hJ (hbb.out.trans (hb2.mono hbb.out.size)); have g4 := kAC e4 _ hb2; have i4 := kAC f4 _ hb2
   cases r2 with
   | false =>
     go_wp2_with fail
     go_ret
     exact ⟨by rw [HN.out]; rfl, hbb2.out⟩
   | true =>
     go_wp2_with fail
     refine (HC3.out _ hbb2.out).mono ?_
     rintro e w3 ⟨rfl, hb3⟩
     go_wp2_with fail
     go_ret
     exact ⟨by rw [HN.out]; rfl, hbb2.out.trans (hb3.mono hbb2.out.size)⟩
def allT (x : Sch) : List Typ := x.params ++ [x.result]
theorem allT_any (x : Sch) : (allT x).any (fun t => !kAK t) = (x.params.any (fun t => !kAK t) || !kAK x.result) := by
 unfold allT; rw [List.any_append]; simp
theorem validSch_all (x : Sch) : kAJ x = (decide (x.params.length ≤ 12) && (decide (x.wh.length ≤ 60) && (!(allT x).any (fun t => !kAK t) && !x.wh.any (fun x => !kAD x)))) := by
 rw [allT_any]
 unfold kAJ
 cases x.params.any (fun t => !kAK t) <;> cases kAK x.result <;> simp
theorem szT_all {x : Sch} (h : szS x) : ∀ t ∈ allT x, szT t := by
 intro t ht
 unfold allT at ht
 rcases List.mem_append.1 ht with q | q
 · exact h.1 t q
 · rw [List.mem_singleton.1 q]; exact h.2.1
theorem kB0 {S : Blk} {x : Sch} {cs : List Value} {w : World} (h : RSch.rd S w cs x) (hz : szS x) (hn : x.params.length ≤ 1000000) :
 Calls Tryz.prog 29 #[.agg cs.toArray] w fun e w' => e = .returned (.bool (kAJ x)) ∧ Below w.heap.size w w' := by
 have HA : Hid (∀ W, Below w.heap.size w W → Calls Tryz.prog 33 #[.agg cs.toArray] W fun e w' => (∃ v, e = .returned v ∧ Own RTyp 39 S w' W.heap.size v (allT x)) ∧ Below W.heap.size W w') :=
  hJ (fun W hW => kD8 (RSch.below h hW) hn)
 obtain ⟨_, t, _, rfl, ⟨ap, cp, rfl, hp⟩, ht, ⟨aq, cq, rfl, hq⟩⟩ := h; have HN := hJ (validSch_all x); have hm := hq.small; have HZ := hJ hz; have HQ := hJ hq; clear hp ht hq hz
 generalize hP : x.params.length = n at *
 generalize hL : x.wh.length = m at *
 have HLm := hJ hL; obtain ⟨B0, ya, hW0⟩ := box1 w 41 [.slice ap n cp, .string x.result.elem, .string x.result.shape.row, t, .slice aq m cq]; have xa0 := box0 ya 0 _ rfl; have xa1 := box0 ya 1 _ rfl; have xa2 := box0 ya 2 _ rfl; have xa3 := box0 ya 3 _ rfl; have xa4 := box0 ya 4 _ rfl; clear ya
 have HLen : Hid ((allT x).length = n + 1) := hJ (by unfold allT; rw [List.length_append, hP]; rfl)
 clear hP hL
 go_enter func29, ntmps29
 go_wp2_with fail
 refine (HA.out _ B0.out).mono ?_
 rintro e w1 ⟨⟨v, rfl, hown⟩, hb⟩
 obtain ⟨al, cl, rfl, hsl⟩ := hown.sl; have HW := hJ (B0.out.trans (hb.mono B0.out.size)); have y0 := kAC xa0 _ hb; have y4 := kAC xa4 _ hb; clear xa0 xa1 xa2 xa3 xa4 hown
 generalize hN1 : (allT x).length = N at *
 have HLN := hJ hN1; clear hN1; have HS := hJ hsl; have hnn := hsl.small; clear hsl
 go_wp2_with fail
 go_loopw [4] (fun i wr => ∃ k : Nat, k ≤ N ∧ i = .int .i64 k ∧ Hid (∀ j, j < k → kAK ((allT x).getD j default) = true) ∧ Below w1.heap.size w1 wr) (fun i _ => N - (intOf i).toNat)
 case atStart => exact ⟨0, Nat.zero_le _, rfl, fun j hj => absurd hj (by omega), Below.refl _ _⟩
 case round =>
  obtain ⟨k, hk, rfl, HT, hB⟩ := hrel
  by_cases hlt : k < N
  · obtain ⟨b, off, rfl, hbW, _⟩ := HS.out.form k hlt
    have HK : Hid (k < (allT x).length) := hJ (by rw [HLN.out]; exact hlt)
    have HR := hJ (HS.out.below hB); obtain ⟨t2, hr, hd, c0, c1, c2⟩ := HR.out.typ k hlt; have HC := hJ (kF7 hr (szT_all HZ.out _ (kAI HK.out)))
    have HBad : Hid (kAK ((allT x).getD k default) = false → kAJ x = false) := hJ (fun q => by rw [HN.out, kFI HK.out q]; simp)
    have HGo := hJ (fun q => upto HT.out (p := fun j => kAK ((allT x).getD j default) = true) q)
    clear hd hr
    generalize (allT x).getD k default = s at *
    by_cases hv : kAK s = true
    · have HGo := hJ (HGo.out hv)
      rw [hv] at HC; clear hv
      go_wp2_with fail
      refine (HC.out).mono ?_
      rintro e w2 ⟨rfl, hb2⟩
      go_wp2_with fail
      go_roundw
      case rel => exact ⟨k + 1, by omega, by go_num, HGo, hB.trans (hb2.mono hB.size)⟩
      case measure => simp [intOf]; omega
    · have hv : kAK s = false := by simpa using hv
      have HF := hJ (HBad.out hv); rw [hv] at HC; clear hv
      go_wp2_with fail
      refine (HC.out).mono ?_
      rintro e w2 ⟨rfl, hb2⟩
      go_wp2_with fail
      go_ret
      exact ⟨by rw [HF.out]; rfl, HW.out.trans ((hB.trans (hb2.mono hB.size)).mono HW.out.size)⟩
  · have HN : Hid (kAJ x = (decide (n ≤ 12) && (decide (m ≤ 60) && !x.wh.any (fun x => !kAD x)))) := hJ (by
     rw [HN.out, kD0 (fun j hj => HT.out j (by rw [HLN.out] at hj; omega))]
     simp)
    have z0 := kAC y0 _ hB; have z4 := kAC y4 _ hB; have HW2 := hJ (HW.out.trans (hB.mono HW.out.size)); have HQ2 := hJ (HQ.out.below HW2.out)
    obtain rfl : k = N := by omega
    clear y0 y4
    go_wp2_with fail
    go_loopw [5] (fun i wr2 => ∃ k : Nat, k ≤ m ∧ i = .int .i64 k ∧ Hid (∀ j, j < k → kAD (x.wh.getD j default) = true) ∧ Below wr.heap.size wr wr2) (fun i _ => m - (intOf i).toNat)
    case atStart => exact ⟨0, Nat.zero_le _, rfl, fun j hj => absurd hj (by omega), Below.refl _ _⟩
    case round =>
     obtain ⟨k, hk, rfl, HT, hB⟩ := hrel; have x0 := kAC z0 _ hB; have x4 := kAC z4 _ hB; clear z0 z4
     by_cases hlt : k < m
     · obtain ⟨b, off, rfl, hbW, _⟩ := HQ2.out.form k hlt
       have HK : Hid (k < x.wh.length) := hJ (by rw [HLm.out]; exact hlt)
       have HR := hJ (HQ2.out.below hB); obtain ⟨t2, hr, hd, c0, c1⟩ := HR.out.lin k hlt; have HC := hJ (kB5 hr (HZ.out.2.2 _ (kAI HK.out)))
       have HBad : Hid (kAD (x.wh.getD k default) = false → kAJ x = false) := hJ (fun q => by rw [HN.out, kFI HK.out q]; simp)
       have HGo := hJ (fun q => upto HT.out (p := fun j => kAD (x.wh.getD j default) = true) q)
       clear hd hr
       generalize x.wh.getD k default = s at *
       by_cases hv : kAD s = true
       · have HGo := hJ (HGo.out hv)
         rw [hv] at HC; clear hv
         go_wp2_with fail
         refine (HC.out).mono ?_
         rintro e w2 ⟨rfl, hb2⟩
         go_wp2_with fail
         go_roundw
         case rel => exact ⟨k + 1, by omega, by go_num, HGo, hB.trans (hb2.mono hB.size)⟩
         case measure => simp [intOf]; omega
       · have hv : kAD s = false := by simpa using hv
         have HF := hJ (HBad.out hv); rw [hv] at HC; clear hv
         go_wp2_with fail
         refine (HC.out).mono ?_
         rintro e w2 ⟨rfl, hb2⟩
         go_wp2_with fail
         go_ret
         exact ⟨by rw [HF.out]; rfl, HW2.out.trans ((hB.trans (hb2.mono hB.size)).mono HW2.out.size)⟩
     · have HN : Hid (kAJ x = (decide (n ≤ 12) && decide (m ≤ 60))) := hJ (by
        rw [HN.out, kD0 (fun j hj => HT.out j (by rw [HLm.out] at hj; omega))]
        simp)
       by_cases h12 : n ≤ 12
       · have q12 : decide ((n : Int) ≤ 12) = true := decide_eq_true (by omega)
         go_wp2_with fail
         go_ret
         exact ⟨by rw [HN.out, decide_eq_true h12, Bool.true_and, ← decide_eq_decide.2 (show ((m : Int) ≤ 60 ↔ m ≤ 60) by omega)]; rfl, HW2.out.trans (hB.mono HW2.out.size)⟩
       · have q12 : decide ((n : Int) ≤ 12) = false := decide_eq_false (by omega)
         go_wp2_with fail
         go_ret
         exact ⟨by rw [HN.out, decide_eq_false h12]; rfl, HW2.out.trans (hB.mono HW2.out.size)⟩
def fewC (t : Coef) : Bool := decide (t.v.size ≤ 35)
def kEE (x : Lin) : Bool := !x.terms.any (fun t => !fewC t) && decide (x.terms.length ≤ 14)
def kDV (s : Shp) : Bool := !s.dims.any (fun x => !kEE x) && (decide (s.dims.length ≤ 8) && decide (s.row.size ≤ 35))
def kED (t : Typ) : Bool := decide (t.elem.size ≤ 35) && kDV t.shape
theorem ref11_fewLinear {S : Blk} {x : Lin} {cs : List Value} {w : World} (h : RLin.rd S w cs x) (hb : ∀ t ∈ x.terms, t.v.size ≤ 281474976710656) :
 Calls Tryz.prog 94 #[.agg cs.toArray] w fun e w' => e = .returned (.bool (kEE x)) ∧ Below w.heap.size w w' := by
 obtain ⟨t, rfl, a, c, rfl, hs⟩ := h; have hm := hs.small; have HBs := hJ hb; clear hb
 generalize hL : x.terms.length = n at *
 obtain ⟨B0, ya, hW0⟩ := box1 w 65 [.int .i64 x.const, .slice a n c]; have xa0 := box0 ya 0 _ rfl; have xa1 := box0 ya 1 _ rfl; clear ya; have HL := hJ hL
 have HN : Hid (kEE x = (!x.terms.any (fun t => !fewC t) && decide (n ≤ 14))) := hJ (by rw [← hL]; rfl)
 have HS := hJ (hs.below B0.out); clear hs hL
 go_enter func94, ntmps94
 go_wp2_with fail
 generalize (w.alloc (.cells #[.int .i64 x.const, .slice a n c] 65)) = W at *
 go_loopw [3] (fun i wr => ∃ k : Nat, k ≤ n ∧ i = .int .i64 k ∧ Hid (∀ j, j < k → fewC (x.terms.getD j default) = true) ∧ W = wr) (fun i _ => n - (intOf i).toNat)
 case atStart => exact ⟨0, Nat.zero_le _, rfl, fun j hj => absurd hj (by omega), rfl⟩
 case round =>
  obtain ⟨k, hk, rfl, HT, rfl⟩ := hrel
  by_cases hlt : k < n
  · obtain ⟨b, off, rfl, hbW, _⟩ := HS.out.form k hlt
    have HK : Hid (k < x.terms.length) := hJ (by rw [HL.out]; exact hlt)
    obtain ⟨c0, c1⟩ := HS.out.coef k hlt; have hsz := HBs.out _ (kAI HK.out)
    have HBad : Hid (fewC (x.terms.getD k default) = false → kEE x = false) := hJ (fun q => by rw [HN.out, kFI HK.out q]; rfl)
    have HGo := hJ (fun q => upto HT.out (p := fun j => fewC (x.terms.getD j default) = true) q)
    generalize x.terms.getD k default = s at *
    by_cases hv : s.v.size ≤ 35
    · have HGo := hJ (HGo.out (decide_eq_true hv))
      have q : decide (35 < (s.v.size : Int)) = false := decide_eq_false (by omega)
      go_wp2_with fail
      go_roundw
      case rel => exact ⟨k + 1, by omega, by go_num, HGo, trivial⟩
      case measure => simp [intOf]; omega
    · have HF := hJ (HBad.out (decide_eq_false hv))
      have q : decide (35 < (s.v.size : Int)) = true := decide_eq_true (by omega)
      go_wp2_with fail
      go_ret
      exact ⟨by rw [HF.out]; rfl, B0.out⟩
  · have HF : Hid (kEE x = decide (n ≤ 14)) := hJ (by rw [HN.out, kD0 (fun j hj => HT.out j (by rw [HL.out] at hj; omega))]; rfl)
    go_wp2_with fail
    go_ret
    exact ⟨by rw [HF.out, ← decide_eq_decide.2 (show ((n : Int) ≤ 14 ↔ n ≤ 14) by omega)]; rfl, B0.out⟩
theorem ref11_Few {S : Blk} {s : Shp} {cs : List Value} {w : World} (h : RShp.rd S w cs s) (hb : ∀ x ∈ s.dims, ∀ t ∈ x.terms, t.v.size ≤ 281474976710656) (hr : s.row.size ≤ 281474976710656) :
 Calls Tryz.prog 47 #[.agg cs.toArray] w fun e w' => e = .returned (.bool (kDV s)) ∧ Below w.heap.size w w' := by
 obtain ⟨t, rfl, a, c, rfl, hs⟩ := h; have hm := hs.small; have HBs := hJ hb; clear hb
 generalize hL : s.dims.length = n at *
 obtain ⟨B0, ya, hW0⟩ := box1 w 37 [.string s.row, .slice a n c]; have xa0 := box0 ya 0 _ rfl; have xa1 := box0 ya 1 _ rfl; clear ya; have HL := hJ hL
 have HN : Hid (kDV s = (!s.dims.any (fun x => !kEE x) && (decide (n ≤ 8) && decide (s.row.size ≤ 35)))) := hJ (by rw [← hL]; rfl)
 have HS := hJ (hs.below B0.out); clear hs hL
 go_enter func47, ntmps47
 go_wp2_with fail
 generalize (w.alloc (.cells #[.string s.row, .slice a n c] 37)) = W at *
 go_loopw [3] (fun i wr => ∃ k : Nat, k ≤ n ∧ i = .int .i64 k ∧ Hid (∀ j, j < k → kEE (s.dims.getD j default) = true) ∧ Below W.heap.size W wr) (fun i _ => n - (intOf i).toNat)
 case atStart => exact ⟨0, Nat.zero_le _, rfl, fun j hj => absurd hj (by omega), Below.refl _ _⟩
 case round =>
  obtain ⟨k, hk, rfl, HT, hB⟩ := hrel; have d0 := kAC xa0 _ hB; have d1 := kAC xa1 _ hB; have HW := hJ (B0.out.trans (hB.mono B0.out.size)); clear xa0 xa1
  by_cases hlt : k < n
  · obtain ⟨b, off, rfl, hbW, _⟩ := HS.out.form k hlt
    have HK : Hid (k < s.dims.length) := hJ (by rw [HL.out]; exact hlt)
    have HR := hJ (HS.out.below hB); obtain ⟨t2, hr2, hd, c0, c1⟩ := HR.out.lin k hlt; have HC := hJ (ref11_fewLinear hr2 (HBs.out _ (kAI HK.out)))
    have HBad : Hid (kEE (s.dims.getD k default) = false → kDV s = false) := hJ (fun q => by rw [HN.out, kFI HK.out q]; rfl)
    have HGo := hJ (fun q => upto HT.out (p := fun j => kEE (s.dims.getD j default) = true) q)
    clear hd hr2
    generalize s.dims.getD k default = y at *
    by_cases hv : kEE y = true
    · have HGo := hJ (HGo.out hv)
      rw [hv] at HC; clear hv
      go_wp2_with fail
      refine (HC.out).mono ?_
      rintro e w2 ⟨rfl, hb2⟩
      go_wp2_with fail
      go_roundw
      case rel => exact ⟨k + 1, by omega, by go_num, HGo, hB.trans (hb2.mono hB.size)⟩
      case measure => simp [intOf]; omega
    · have hv : kEE y = false := by simpa using hv
      have HF := hJ (HBad.out hv); rw [hv] at HC; clear hv
      go_wp2_with fail
      refine (HC.out).mono ?_
      rintro e w2 ⟨rfl, hb2⟩
      go_wp2_with fail
      go_ret
      exact ⟨by rw [HF.out]; rfl, HW.out.trans (hb2.mono HW.out.size)⟩
  · have HN : Hid (kDV s = (decide (n ≤ 8) && decide (s.row.size ≤ 35))) := hJ (by rw [HN.out, kD0 (fun j hj => HT.out j (by rw [HL.out] at hj; omega))]; rfl)
    by_cases h8 : n ≤ 8
    · have q8 : decide ((n : Int) ≤ 8) = true := decide_eq_true (by omega)
      go_wp2_with fail
      go_ret
      exact ⟨by rw [HN.out, decide_eq_true h8, Bool.true_and, ← decide_eq_decide.2 (show ((s.row.size : Int) ≤ 35 ↔ s.row.size ≤ 35) by omega)]; rfl, HW.out⟩
    · have q8 : decide ((n : Int) ≤ 8) = false := decide_eq_false (by omega)
      go_wp2_with fail
      go_ret
      exact ⟨by rw [HN.out, decide_eq_false h8]; rfl, HW.out⟩
theorem ref12_FewType {S : Blk} {x : Typ} {cs : List Value} {w : World} (h : RTyp.rd S w cs x) (hb : ∀ y ∈ x.shape.dims, ∀ t ∈ y.terms, t.v.size ≤ 281474976710656) (hr : x.shape.row.size ≤ 281474976710656) (he : x.elem.size ≤ 281474976710656) :
 Calls Tryz.prog 46 #[.agg cs.toArray] w fun e w' => e = .returned (.bool (kED x)) ∧ Below w.heap.size w w' := by
 obtain ⟨t, rfl, a, c, rfl, hs⟩ := h; obtain ⟨B0, ya, hW0⟩ := box1 w 39 [.string x.elem, .string x.shape.row, .slice a x.shape.dims.length c]; have xa0 := box0 ya 0 _ rfl; have xa1 := box0 ya 1 _ rfl; have xa2 := box0 ya 2 _ rfl; clear ya; have HC := hJ (ref11_Few (s := x.shape) (S := S) (cs := [.string x.shape.row, .slice a x.shape.dims.length c]) ⟨_, rfl, a, c, rfl, hs.below B0.out⟩ hb hr)
 have HN : Hid (kED x = (decide (x.elem.size ≤ 35) && kDV x.shape)) := hJ rfl
 clear hs hb
 by_cases h35 : x.elem.size ≤ 35
 · have q : decide ((x.elem.size : Int) ≤ 35) = true := decide_eq_true (by omega)
   have HF : Hid (kED x = kDV x.shape) := hJ (by rw [HN.out, decide_eq_true h35]; rfl)
   go_enter func46, ntmps46
   go_wp2_with fail
   refine (HC.out).mono ?_
   rintro e w1 ⟨rfl, hb⟩
   go_wp2_with fail
   go_ret
   exact ⟨by rw [HF.out]; rfl, B0.out.trans (hb.mono B0.out.size)⟩
 · have q : decide ((x.elem.size : Int) ≤ 35) = false := decide_eq_false (by omega)
   have HF : Hid (kED x = false) := hJ (by rw [HN.out, decide_eq_false h35]; rfl)
   go_enter func46, ntmps46
   go_wp2_with fail
   go_ret
   exact ⟨by rw [HF.out]; rfl, B0.out⟩
def strB (s : Str) : Prop := s.size ≤ 281474976710656
def bigL (x : Lin) : Prop := ∀ t ∈ x.terms, t.v.size ≤ 281474976710656
def bigT (x : Typ) : Prop := (∀ y ∈ x.shape.dims, bigL y) ∧ strB x.shape.row ∧ strB x.elem
def bigS (x : Sch) : Prop := (∀ t ∈ allT x, bigT t) ∧ (∀ y ∈ x.wh, bigL y) ∧ x.params.length ≤ 1000000
def kEY (x : Sch) : Bool := !(allT x).any (fun t => !kED t) && (kDV ⟨⟨#[]⟩, x.wh.take (min x.wh.length 8)⟩ && (decide (x.params.length ≤ 13) && (decide (x.wh.length ≤ 8) || x.wh.length == 61)))
theorem ref12_Few {S : Blk} {x : Sch} {cs : List Value} {w : World} (h : RSch.rd S w cs x) (hz : bigS x) :
 Calls Tryz.prog 23 #[.agg cs.toArray] w fun e w' => e = .returned (.bool (kEY x)) ∧ Below w.heap.size w w' := by
 have hn := hz.2.2
 have HA : Hid (∀ W, Below w.heap.size w W → Calls Tryz.prog 33 #[.agg cs.toArray] W fun e w' => (∃ v, e = .returned v ∧ Own RTyp 39 S w' W.heap.size v (allT x)) ∧ Below W.heap.size W w') :=
  hJ (fun W hW => kD8 (RSch.below h hW) hn)
 obtain ⟨_, t, _, rfl, ⟨ap, cp, rfl, hp⟩, ht, ⟨aq, cq, rfl, hq⟩⟩ := h; have hm := hq.small; have HZ := hJ hz; have HQ := hJ hq; clear hp ht hq hz
 have HN : Hid (kEY x = (!(allT x).any (fun t => !kED t) && (kDV ⟨⟨#[]⟩, x.wh.take (min x.wh.length 8)⟩ && (decide (x.params.length ≤ 13) && (decide (x.wh.length ≤ 8) || x.wh.length == 61))))) := hJ rfl
 generalize hP : x.params.length = n at *
 generalize hL : x.wh.length = m at *
 have HLm := hJ hL
 have hcm : m ≤ cq := HQ.out.cap
 obtain ⟨B0, ya, hW0⟩ := box1 w 41 [.slice ap n cp, .string x.result.elem, .string x.result.shape.row, t, .slice aq m cq]; have xa0 := box0 ya 0 _ rfl; have xa1 := box0 ya 1 _ rfl; have xa2 := box0 ya 2 _ rfl; have xa3 := box0 ya 3 _ rfl; have xa4 := box0 ya 4 _ rfl; clear ya; clear hP hL
 go_enter func23, ntmps23
 go_wp2_with fail
 refine (HA.out _ B0.out).mono ?_
 rintro e w1 ⟨⟨v, rfl, hown⟩, hb⟩
 obtain ⟨al, cl, rfl, hsl⟩ := hown.sl; have HW := hJ (B0.out.trans (hb.mono B0.out.size)); have y0 := kAC xa0 _ hb; have y4 := kAC xa4 _ hb; clear xa0 xa1 xa2 xa3 xa4 hown
 generalize hN1 : (allT x).length = N at *
 have HLN := hJ hN1; clear hN1; have HS := hJ hsl; have hnn := hsl.small; clear hsl
 go_wp2_with fail
 go_loopw [4] (fun i wr => ∃ k : Nat, k ≤ N ∧ i = .int .i64 k ∧ Hid (∀ j, j < k → kED ((allT x).getD j default) = true) ∧ Below w1.heap.size w1 wr) (fun i _ => N - (intOf i).toNat)
 case atStart => exact ⟨0, Nat.zero_le _, rfl, fun j hj => absurd hj (by omega), Below.refl _ _⟩
 case round =>
  obtain ⟨k, hk, rfl, HT, hB⟩ := hrel
  by_cases hlt : k < N
  · obtain ⟨b, off, rfl, hbW, _⟩ := HS.out.form k hlt
    have HK : Hid (k < (allT x).length) := hJ (by rw [HLN.out]; exact hlt)
    have HR := hJ (HS.out.below hB); obtain ⟨t2, hr, hd, c0, c1, c2⟩ := HR.out.typ k hlt; have HC := hJ (ref12_FewType hr (HZ.out.1 _ (kAI HK.out)).1 (HZ.out.1 _ (kAI HK.out)).2.1 (HZ.out.1 _ (kAI HK.out)).2.2)
    have HBad : Hid (kED ((allT x).getD k default) = false → kEY x = false) := hJ (fun q => by rw [HN.out, kFI HK.out q]; rfl)
    have HGo := hJ (fun q => upto HT.out (p := fun j => kED ((allT x).getD j default) = true) q)
    clear hd hr
    generalize (allT x).getD k default = s at *
    by_cases hv : kED s = true
    · have HGo := hJ (HGo.out hv)
      rw [hv] at HC; clear hv
      go_wp2_with fail
      refine (HC.out).mono ?_
      rintro e w2 ⟨rfl, hb2⟩
      go_wp2_with fail
      go_roundw
      case rel => exact ⟨k + 1, by omega, by go_num, HGo, hB.trans (hb2.mono hB.size)⟩
      case measure => simp [intOf]; omega
    · have hv : kED s = false := by simpa using hv
      have HF := hJ (HBad.out hv); rw [hv] at HC; clear hv
      go_wp2_with fail
      refine (HC.out).mono ?_
      rintro e w2 ⟨rfl, hb2⟩
      go_wp2_with fail
      go_ret
      exact ⟨by rw [HF.out]; rfl, HW.out.trans ((hB.trans (hb2.mono hB.size)).mono HW.out.size)⟩
  · have HN : Hid (kEY x = (kDV ⟨⟨#[]⟩, x.wh.take (min m 8)⟩ && (decide (n ≤ 13) && (decide (m ≤ 8) || m == 61)))) := hJ (by
     rw [HN.out, kD0 (fun j hj => HT.out j (by rw [HLN.out] at hj; omega))]; rfl)
    have z0 := kAC y0 _ hB; have z4 := kAC y4 _ hB; have HW2 := hJ (HW.out.trans (hB.mono HW.out.size)); have HQ2 := hJ (HQ.out.below HW2.out)
    obtain rfl : k = N := by omega
    clear y0 y4
    have HC : Hid (∀ q : Nat, q = min m 8 → Calls Tryz.prog 47 #[.agg #[.string ⟨#[]⟩, .slice aq q cq]] wr fun e w' => e = .returned (.bool (kDV ⟨⟨#[]⟩, x.wh.take (min m 8)⟩)) ∧ Below wr.heap.size wr w') := hJ (fun q hq => by
     subst hq
     have hsl := HQ2.out.take (min m 8) (by omega)
     have hlen : (x.wh.take (min m 8)).length = min m 8 := by rw [List.length_take, HLm.out]; omega
     refine ref11_Few (S := S) (s := ⟨⟨#[]⟩, x.wh.take (min m 8)⟩) (cs := [.string ⟨#[]⟩, .slice aq (min m 8) cq]) ⟨_, rfl, aq, cq, ?_, ?_⟩ (fun y hy => HZ.out.2.1 y (List.mem_of_mem_take hy)) (show ByteArray.size ⟨#[]⟩ ≤ 281474976710656 by decide)
     · rw [hlen]
     · rw [hlen]; exact hsl)
    generalize kDV ⟨⟨#[]⟩, x.wh.take (min m 8)⟩ = r at *
    by_cases h8 : m ≤ 8
    · have HC := hJ (HC.out m (by omega))
      have HN : Hid (kEY x = (r && decide (n ≤ 13))) := hJ (by rw [HN.out, decide_eq_true h8]; simp)
      have q1 : min (m : Int) 8 = (m : Int) := by omega
      have q8 : decide ((m : Int) ≤ 8) = true := decide_eq_true (by omega)
      go_wp2_with fail
      refine (HC.out).mono ?_
      rintro e w2 ⟨rfl, hb2⟩
      have g0 := kAC z0 _ hb2; have g4 := kAC z4 _ hb2; have HW3 := hJ (HW2.out.trans (hb2.mono HW2.out.size)); clear z0 z4
      cases r with
      | false =>
        go_wp2_with fail
        go_ret
        exact ⟨by rw [HN.out]; rfl, HW3.out⟩
      | true =>
        by_cases h13 : n ≤ 13
        · have q13 : decide ((n : Int) ≤ 13) = true := decide_eq_true (by omega)
          go_wp2_with fail
          go_ret
          exact ⟨by rw [HN.out, decide_eq_true h13]; rfl, HW3.out⟩
        · have q13 : decide ((n : Int) ≤ 13) = false := decide_eq_false (by omega)
          go_wp2_with fail
          go_ret
          exact ⟨by rw [HN.out, decide_eq_false h13]; rfl, HW3.out⟩
    · have HC := hJ (HC.out 8 (by omega))
      have HN : Hid (kEY x = (r && (decide (n ≤ 13) && (m == 61)))) := hJ (by rw [HN.out, decide_eq_false h8]; rfl)
      have q1 : min (m : Int) 8 = 8 := by omega
      have q2 : 8 ≤ cq := by omega
      have q8 : decide ((m : Int) ≤ 8) = false := decide_eq_false (by omega)
      have HE : Hid (((m : Int) == 61) = (m == 61)) := hJ (by rw [Bool.eq_iff_iff, beq_iff_eq, beq_iff_eq]; omega)
      go_wp2_with fail
      refine (HC.out).mono ?_
      rintro e w2 ⟨rfl, hb2⟩
      have g0 := kAC z0 _ hb2; have g4 := kAC z4 _ hb2; have HW3 := hJ (HW2.out.trans (hb2.mono HW2.out.size)); clear z0 z4
      cases r with
      | false =>
        go_wp2_with fail
        go_ret
        exact ⟨by rw [HN.out]; rfl, HW3.out⟩
      | true =>
        by_cases h13 : n ≤ 13
        · have q13 : decide ((n : Int) ≤ 13) = true := decide_eq_true (by omega)
          go_wp2_with fail
          go_ret
          exact ⟨by rw [HN.out, decide_eq_true h13, ← HE.out]; rfl, HW3.out⟩
        · have q13 : decide ((n : Int) ≤ 13) = false := decide_eq_false (by omega)
          go_wp2_with fail
          go_ret
          exact ⟨by rw [HN.out, decide_eq_false h13]; rfl, HW3.out⟩
def bigE (x : Ent) : Prop := bigS x.scheme ∧ strB x.name
def fewE (x : Ent) : Bool := kEY x.scheme && decide (x.name.size ≤ 40)
def fewIfc (i : Ifc) : Bool := !i.entries.any (fun x => !fewE x) && (decide (i.entries.length ≤ 6) && decide (i.module_.size ≤ 40))
theorem ref57_Few {S : Blk} {i : Ifc} {a : Option Addr} {n c : Nat} {w : World} (hs : Sl REnt S w a n c i.entries) (hb : ∀ x ∈ i.entries, bigE x) (hr : strB i.module_) :
 Calls Tryz.prog 6 #[.agg #[.string i.module_, .slice a n c]] w fun e w' => e = .returned (.bool (fewIfc i)) ∧ Below w.heap.size w w' := by
 have hm := hs.small; have hL := hs.len; have HBs := hJ hb
 have hrz : i.module_.size ≤ 281474976710656 := hr
 clear hb hr; obtain ⟨B0, ya, hW0⟩ := box1 w 24 [.string i.module_, .slice a n c]; have xa0 := box0 ya 0 _ rfl; have xa1 := box0 ya 1 _ rfl; clear ya; have HL := hJ hL
 have HN : Hid (fewIfc i = (!i.entries.any (fun x => !fewE x) && (decide (n ≤ 6) && decide (i.module_.size ≤ 40)))) := hJ (by rw [← hL]; rfl)
 have HS := hJ (hs.below B0.out); clear hs hL
 go_enter func6, ntmps6
 go_wp2_with fail
 generalize (w.alloc (.cells #[.string i.module_, .slice a n c] 24)) = W at *
 go_loopw [3] (fun i2 wr => ∃ k : Nat, k ≤ n ∧ i2 = .int .i64 k ∧ Hid (∀ j, j < k → fewE (i.entries.getD j default) = true) ∧ Below W.heap.size W wr) (fun i2 _ => n - (intOf i2).toNat)
 case atStart => exact ⟨0, Nat.zero_le _, rfl, fun j hj => absurd hj (by omega), Below.refl _ _⟩
 case round =>
  obtain ⟨k, hk, rfl, HT, hB⟩ := hrel; have d0 := kAC xa0 _ hB; have d1 := kAC xa1 _ hB; have HW := hJ (B0.out.trans (hB.mono B0.out.size)); clear xa0 xa1
  by_cases hlt : k < n
  · obtain ⟨b, off, rfl, hbW, _⟩ := HS.out.form k hlt
    have HK : Hid (k < i.entries.length) := hJ (by rw [HL.out]; exact hlt)
    have HR := hJ (HS.out.below hB); obtain ⟨pp, tt, qq, hr2, hd, c0, c1, c2, c3, c4, c5⟩ := HR.out.ent k hlt; have HM := hJ (HBs.out _ (kAI HK.out)); obtain ⟨cs', e', hsch⟩ := hr2
    cases e'
    have HC := hJ (ref12_Few hsch HM.out.1)
    have hnz : (i.entries.getD k default).name.size ≤ 281474976710656 := HM.out.2
    have HBad : Hid (fewE (i.entries.getD k default) = false → fewIfc i = false) := hJ (fun q => by rw [HN.out, kFI HK.out q]; rfl)
    have HGo := hJ (fun q => upto HT.out (p := fun j => fewE (i.entries.getD j default) = true) q)
    have HE : Hid (fewE (i.entries.getD k default) = (kEY (i.entries.getD k default).scheme && decide ((i.entries.getD k default).name.size ≤ 40))) := hJ rfl
    clear hd hsch
    generalize i.entries.getD k default = y at *
    by_cases hv : kEY y.scheme = true
    · have HC2 : Hid _ := HC
      rw [hv] at HC
      by_cases h40 : y.name.size ≤ 40
      · have HGo := hJ (HGo.out (by show fewE y = true; rw [HE.out, hv, decide_eq_true h40]; rfl))
        have q : decide (40 < (y.name.size : Int)) = false := decide_eq_false (by omega)
        clear hv HC2
        go_wp2_with fail
        refine (HC.out).mono ?_
        rintro e w2 ⟨rfl, hb2⟩
        have g1 := kAC d1 _ hb2; have gn := kAC c0 _ hb2
        go_wp2_with fail
        go_roundw
        case rel => exact ⟨k + 1, by omega, by go_num, HGo, hB.trans (hb2.mono hB.size)⟩
        case measure => simp [intOf]; omega
      · have HF := hJ (HBad.out (by rw [HE.out, hv, decide_eq_false h40]; rfl))
        have q : decide (40 < (y.name.size : Int)) = true := decide_eq_true (by omega)
        clear hv HC2
        go_wp2_with fail
        refine (HC.out).mono ?_
        rintro e w2 ⟨rfl, hb2⟩
        have g1 := kAC d1 _ hb2; have gn := kAC c0 _ hb2
        go_wp2_with fail
        go_ret
        exact ⟨by rw [HF.out]; rfl, HW.out.trans (hb2.mono HW.out.size)⟩
    · have hv : kEY y.scheme = false := by simpa using hv
      have HF := hJ (HBad.out (by rw [HE.out, hv]; rfl))
      rw [hv] at HC; clear hv
      go_wp2_with fail
      refine (HC.out).mono ?_
      rintro e w2 ⟨rfl, hb2⟩
      go_wp2_with fail
      go_ret
      exact ⟨by rw [HF.out]; rfl, HW.out.trans (hb2.mono HW.out.size)⟩
  · have HN : Hid (fewIfc i = (decide (n ≤ 6) && decide (i.module_.size ≤ 40))) := hJ (by rw [HN.out, kD0 (fun j hj => HT.out j (by rw [HL.out] at hj; omega))]; rfl)
    by_cases h8 : n ≤ 6
    · have q8 : decide ((n : Int) ≤ 6) = true := decide_eq_true (by omega)
      go_wp2_with fail
      go_ret
      exact ⟨by rw [HN.out, decide_eq_true h8, Bool.true_and, ← decide_eq_decide.2 (show ((i.module_.size : Int) ≤ 40 ↔ i.module_.size ≤ 40) by omega)]; rfl, HW.out⟩
    · have q8 : decide ((n : Int) ≤ 6) = false := decide_eq_false (by omega)
      go_wp2_with fail
      go_ret
      exact ⟨by rw [HN.out, decide_eq_false h8]; rfl, HW.out⟩
def isB (kind : Int) (name : Str) (x : Bnd) : Bool := x.kind == kind && (x.v.toList == name.toList)
def kBA (l : List Bnd) (kind : Int) (name : Str) : Int := idx (isB kind name) l
theorem kEA {S : Blk} (l : List Bnd) (a : Option Addr) (n c : Nat) (w : World) (h : Sl RBnd S w a n c l) (kind : Int) (name : Str) :
 Calls Tryz.prog 119 #[.slice a n c, .int .i64 kind, .string name] w fun e w' => e = .returned (.int .i64 (kBA l kind name)) ∧ w = w' := by
 have H := hJ h; have hn := h.small; clear h
 go_enter func119, ntmps119
 go_wp2_with fail
 go_loopw [7] (fun i wr => ∃ k : Nat, k ≤ n ∧ i = .int .i64 k ∧ Hid (∀ j, j < k → isB kind name (l.getD j default) = false) ∧ w = wr) (fun i _ => n - (intOf i).toNat)
 case atStart => exact ⟨0, Nat.zero_le _, rfl, fun j hj => absurd hj (by omega), rfl⟩
 case round =>
  obtain ⟨k, hk, rfl, HT, rfl⟩ := hrel
  by_cases hlt : k < n
  · obtain ⟨b, off, rfl, hbW, _⟩ := H.out.form k hlt
    have HK : Hid (k < l.length) := hJ (by rw [H.out.len]; exact hlt)
    obtain ⟨t, d, hr, hd, c0, c1, c2, c3, c4, c5, c6⟩ := H.out.bnd k hlt
    have HH : Hid (isB kind name (l.getD k default) = true → kBA l kind name = k) := hJ (fun q => idx_hit HK.out q HT.out)
    have HG := hJ (fun q => upto HT.out (p := fun j => isB kind name (l.getD j default) = false) q)
    have HE : Hid (isB kind name (l.getD k default) = ((l.getD k default).kind == kind && ((l.getD k default).v.toList == name.toList))) := hJ rfl
    clear hr hd
    generalize l.getD k default = x at *
    by_cases h1 : x.kind = kind
    · have q1 : (x.kind == kind) = true := beq_iff_eq.2 h1
      clear h1
      by_cases h2 : (x.v.toList == name.toList) = true
      · have HF := hJ (HH.out (by rw [HE.out, q1, h2]; rfl))
        go_wp2_with fail
        go_ret
        exact ⟨by rw [HF.out]; rfl, rfl⟩
      · have h2 : (x.v.toList == name.toList) = false := by simpa using h2
        have HGo := hJ (HG.out (by show isB kind name x = false; rw [HE.out, q1, h2]; rfl))
        go_wp2_with fail
        go_roundw
        case rel => exact ⟨k + 1, by omega, by go_num, HGo, trivial⟩
        case measure => simp [intOf]; omega
    · have q1 : (x.kind == kind) = false := beq_eq_false_iff_ne.2 h1
      have HGo := hJ (HG.out (by show isB kind name x = false; rw [HE.out, q1]; rfl))
      clear h1
      go_wp2_with fail
      go_roundw
      case rel => exact ⟨k + 1, by omega, by go_num, HGo, trivial⟩
      case measure => simp [intOf]; omega
  · have HF : Hid (kBA l kind name = -1) := hJ (kGU fun j hj => HT.out j (by rw [H.out.len] at hj; omega))
    go_wp2_with fail
    go_ret
    exact ⟨by rw [HF.out]; rfl, rfl⟩
theorem shape_find_1 {S : Blk} {x : Bnd} {cs : List Value} {w : World} (h : RBnd.rd S w cs x) (kind : Int) (name : Str) (p q : Nat) (hp : w.cell? ⟨p, 0, none⟩ = some (.int .i64 kind)) (hq : w.cell? ⟨q, 0, none⟩ = some (.string name)) :
 Calls Tryz.prog 195 #[.agg cs.toArray, .pointer (some ⟨p, 0, none⟩), .pointer (some ⟨q, 0, none⟩)] w fun e w' => e = .returned (.bool (isB kind name x)) ∧ Below w.heap.size w w' := by
 obtain ⟨t, d, rfl, ⟨a, c, rfl, _⟩, ⟨a2, c2, rfl, _⟩⟩ := h; have hpl := kCG hp; have hql := kCG hq; obtain ⟨B0, ya, hW0⟩ := box1 w 103 [.int .i64 x.kind, .string x.v, .int .i64 x.dim.const, .slice a x.dim.terms.length c, .string x.row.row, .slice a2 x.row.dims.length c2, .string x.elem]; have xa0 := box0 ya 0 _ rfl; have xa1 := box0 ya 1 _ rfl; have xa2 := box0 ya 2 _ rfl; have xa3 := box0 ya 3 _ rfl; have xa4 := box0 ya 4 _ rfl; have xa5 := box0 ya 5 _ rfl; have xa6 := box0 ya 6 _ rfl; clear ya; have hp := kAC hp _ B0.out; have hq := kAC hq _ B0.out
 have HE : Hid (isB kind name x = (x.kind == kind && (x.v.toList == name.toList))) := hJ rfl
 by_cases h1 : x.kind = kind
 · have q1 : (x.kind == kind) = true := beq_iff_eq.2 h1
   clear h1
   have HF : Hid (isB kind name x = (x.v.toList == name.toList)) := hJ (by rw [HE.out, q1]; rfl)
   go_enter func195, ntmps195
   go_wp2_with fail
   go_ret
   exact ⟨by rw [HF.out]; rfl, B0.out⟩
 · have q1 : (x.kind == kind) = false := beq_eq_false_iff_ne.2 h1
   clear h1
   have HF : Hid (isB kind name x = false) := hJ (by rw [HE.out, q1]; rfl)
   go_enter func195, ntmps195
   go_wp2_with fail
   go_ret
   exact ⟨by rw [HF.out]; rfl, B0.out⟩
theorem kFL {S : Blk} (l : List Bnd) (a : Option Addr) (n c : Nat) (w : World) (h : Sl RBnd S w a n c l) (kind : Int) (name : Str) :
 Calls Tryz.prog 145 #[.slice a n c, .int .i64 kind, .string name] w fun e w' => e = .returned (.int .i64 (kBA l kind name)) ∧ Below w.heap.size w w' := by
 obtain ⟨B0, ya, yb, hW0⟩ := box2 w 3 [.int .i64 kind] 9 [.string name]; have xa0 := box0 ya 0 _ rfl; have xb0 := box0 yb 0 _ rfl; clear ya yb
 have HC := hJ (index_Bnd l a n c _ (h.below B0.out) 195 #[.pointer (some ⟨w.heap.size, 0, none⟩), .pointer (some ⟨w.heap.size + 1, 0, none⟩)] (kBM func195 rfl rfl) (isB kind name) (fun W x cs hb _ hr => shape_find_1 hr kind name _ _ (kAC xa0 _ hb) (kAC xb0 _ hb)))
 have hmf : ∀ (fn : Fn) (first cap : Array Value) (w : World), (Instr.makeFunc fn first cap).run Tryz.prog w = .ok (.func fn first cap) w := fun _ _ _ _ => rfl
 go_enter func145, ntmps145
 go_wp2_with fail
 refine (HC.out).mono ?_
 rintro e w1 ⟨rfl, hb⟩
 go_wp2_with fail
 go_ret
 exact ⟨rfl, B0.out.trans (hb.mono B0.out.size)⟩
theorem types_find_1 {S : Blk} {x : Bnd} {cs : List Value} {w : World} (h : RBnd.rd S w cs x) (kind : Int) (name : Str) (p q : Nat) (hp : w.cell? ⟨p, 0, none⟩ = some (.int .i64 kind)) (hq : w.cell? ⟨q, 0, none⟩ = some (.string name)) :
 Calls Tryz.prog 190 #[.agg cs.toArray, .pointer (some ⟨p, 0, none⟩), .pointer (some ⟨q, 0, none⟩)] w fun e w' => e = .returned (.bool (isB kind name x)) ∧ Below w.heap.size w w' := by
 obtain ⟨t, d, rfl, ⟨a, c, rfl, _⟩, ⟨a2, c2, rfl, _⟩⟩ := h; have hpl := kCG hp; have hql := kCG hq; obtain ⟨B0, ya, hW0⟩ := box1 w 103 [.int .i64 x.kind, .string x.v, .int .i64 x.dim.const, .slice a x.dim.terms.length c, .string x.row.row, .slice a2 x.row.dims.length c2, .string x.elem]; have xa0 := box0 ya 0 _ rfl; have xa1 := box0 ya 1 _ rfl; have xa2 := box0 ya 2 _ rfl; have xa3 := box0 ya 3 _ rfl; have xa4 := box0 ya 4 _ rfl; have xa5 := box0 ya 5 _ rfl; have xa6 := box0 ya 6 _ rfl; clear ya; have hp := kAC hp _ B0.out; have hq := kAC hq _ B0.out
 have HE : Hid (isB kind name x = (x.kind == kind && (x.v.toList == name.toList))) := hJ rfl
 by_cases h1 : x.kind = kind
 · have q1 : (x.kind == kind) = true := beq_iff_eq.2 h1
   clear h1
   have HF : Hid (isB kind name x = (x.v.toList == name.toList)) := hJ (by rw [HE.out, q1]; rfl)
   go_enter func190, ntmps190
   go_wp2_with fail
   go_ret
   exact ⟨by rw [HF.out]; rfl, B0.out⟩
 · have q1 : (x.kind == kind) = false := beq_eq_false_iff_ne.2 h1
   clear h1
   have HF : Hid (isB kind name x = false) := hJ (by rw [HE.out, q1]; rfl)
   go_enter func190, ntmps190
   go_wp2_with fail
   go_ret
   exact ⟨by rw [HF.out]; rfl, B0.out⟩
theorem types_find {S : Blk} (l : List Bnd) (a : Option Addr) (n c : Nat) (w : World) (h : Sl RBnd S w a n c l) (kind : Int) (name : Str) :
 Calls Tryz.prog 141 #[.slice a n c, .int .i64 kind, .string name] w fun e w' => e = .returned (.int .i64 (kBA l kind name)) ∧ Below w.heap.size w w' := by
 obtain ⟨B0, ya, yb, hW0⟩ := box2 w 3 [.int .i64 kind] 9 [.string name]; have xa0 := box0 ya 0 _ rfl; have xb0 := box0 yb 0 _ rfl; clear ya yb
 have HC := hJ (index_Bnd l a n c _ (h.below B0.out) 190 #[.pointer (some ⟨w.heap.size, 0, none⟩), .pointer (some ⟨w.heap.size + 1, 0, none⟩)] (kBM func190 rfl rfl) (isB kind name) (fun W x cs hb _ hr => types_find_1 hr kind name _ _ (kAC xa0 _ hb) (kAC xb0 _ hb)))
 have hmf : ∀ (fn : Fn) (first cap : Array Value) (w : World), (Instr.makeFunc fn first cap).run Tryz.prog w = .ok (.func fn first cap) w := fun _ _ _ _ => rfl
 go_enter func141, ntmps141
 go_wp2_with fail
 refine (HC.out).mono ?_
 rintro e w1 ⟨rfl, hb⟩
 go_wp2_with fail
 go_ret
 exact ⟨rfl, B0.out.trans (hb.mono B0.out.size)⟩
theorem Sl.single {α : Type} {R : Rep α} {S : Blk} {w : World} {g : Nat} {E : TypeId} {cs : List Value} {x : α} (h : w.heap[g]? = some (.cells cs.toArray E (0, 0))) (hr : R.rd S w cs x) (hg : S g) : Sl R S w (some ⟨g, 0, none⟩) 1 1 [x] :=
 ⟨rfl, Nat.le_refl _, by decide, by intro h; (cases h), fun i y hy => by
   cases i with
   | zero =>
     simp at hy
     subst hy
     exact ⟨g, 0, cs, rfl, hg, hr, fun j u hu => by rw [Nat.zero_mul, Nat.zero_add, Nat.zero_add]; exact kA4 E h j u hu⟩
   | succ i => simp at hy⟩
def varL (s : Str) : Lin := ⟨0, [⟨s, 1⟩]⟩
theorem linear_Const {x : Lin} {S : Blk} {cs : List Value} {w : World} (h : RLin.rd S w cs x) :
 Calls Tryz.prog 61 #[.agg cs.toArray] w fun e w' => e = .returned (.tuple #[.int .i64 (if x.terms.length = 0 then x.const else 0), .bool (decide (x.terms.length = 0))]) ∧ Below w.heap.size w w' := by
 obtain ⟨t, rfl, a, c, rfl, hs⟩ := h; have hm := hs.small; clear hs
 generalize x.terms.length = n at *
 obtain ⟨B0, ya, hW0⟩ := box1 w 65 [.int .i64 x.const, .slice a n c]; have xa0 := box0 ya 0 _ rfl; have xa1 := box0 ya 1 _ rfl; clear ya
 by_cases h0 : n = 0
 · subst h0
   go_enter func61, ntmps61
   go_wp2_with fail
   go_returns
   exact ⟨rfl, B0.out⟩
 · have q : decide (0 < (n : Int)) = true := decide_eq_true (by omega)
   go_enter func61, ntmps61
   go_wp2_with fail
   go_returns
   exact ⟨rfl, B0.out⟩
theorem linear_Var (s : Str) (w : World) :
 Calls Tryz.prog 57 #[.string s] w fun e w' => (∃ cs, e = .returned (.agg cs.toArray) ∧ RLin.rd (fun k => w.heap.size ≤ k) w' cs (varL s)) ∧ Below w.heap.size w w' := by
 go_enter func57, ntmps57
 go_wp2_with fail
 go_returns
 refine ⟨⟨[.int .i64 0, .slice (some ⟨w.heap.size + 1, 0, none⟩) 1 1], rfl, _, rfl, _, _, rfl, Sl.single (E := 62) (cs := [.string s, .int .i64 1]) (by (simp only [kAG, kAE, Array.getElem?_push, Array.size_push]; simp)) rfl (Nat.le_succ _)⟩, ?_⟩
 exact ((Below.refl _ _).alloc (Nat.le_refl _) _).alloc (by simp) _
theorem ref04_Var (s : Str) (w : World) :
 Calls Tryz.prog 122 #[.string s] w fun e w' => (∃ cs, e = .returned (.agg cs.toArray) ∧ RLin.rd (fun k => w.heap.size ≤ k) w' cs (varL s)) ∧ Below w.heap.size w w' := by
 go_enter func122, ntmps122
 go_wp2_with fail
 go_returns
 refine ⟨⟨[.int .i64 0, .slice (some ⟨w.heap.size + 1, 0, none⟩) 1 1], rfl, _, rfl, _, _, rfl, Sl.single (E := 62) (cs := [.string s, .int .i64 1]) (by (simp only [kAG, kAE, Array.getElem?_push, Array.size_push]; simp)) rfl (Nat.le_succ _)⟩, ?_⟩
 exact ((Below.refl _ _).alloc (Nat.le_refl _) _).alloc (by simp) _
theorem kC5 (w : World) (b o o2 : Nat) (v : Value) (h : o ≠ o2) : (w.setCell ⟨b, o, none⟩ v).cell? ⟨b, o2, none⟩ = w.cell? ⟨b, o2, none⟩ := by
 apply World.cell?_setCell_other
 intro e
 cases e
 exact h rfl
def limL (x : Lin) : Lin := if kAD x then x else ⟨0, []⟩
def limE (x : Lin) : Int := if kAD x then 0 else 3
theorem RLin.zero (S : Blk) (w : World) : RLin.rd S w [.int .i64 0, .slice none 0 0] ⟨0, []⟩ := ⟨_, rfl, none, 0, rfl, Sl.empty kBP S w⟩
theorem ref04_limited {S : Blk} {x : Lin} {cs : List Value} {w : World} (h : RLin.rd S w cs x) (hz : szL x) :
 Calls Tryz.prog 124 #[.agg cs.toArray] w fun e w' => (∃ ds, e = .returned (.tuple #[.agg ds.toArray, .int .i64 (limE x)]) ∧ RLin.rd S w' ds (limL x)) ∧ Below w.heap.size w w' := by
 have HH := hJ h; obtain ⟨t, rfl, a, c, rfl, hs⟩ := h
 have HV : Hid (∀ W, Below w.heap.size w W → Calls Tryz.prog 67 #[.agg #[.int .i64 x.const, .slice a x.terms.length c]] W fun e w' => e = .returned (.bool (kAD x)) ∧ Below W.heap.size W w') :=
  hJ (fun W hW => kB5 (RLin.below HH.out hW) hz)
 clear hs
 go_enter func124, ntmps124
 go_wp2_with fail
 have hB0 : Below w.heap.size w ((w.alloc (.cells #[.int .i64 x.const, .slice a x.terms.length c] 65)).alloc (.cells #[.int .i64 0, .slice none 0 0] 65)) := ((Below.refl _ _).alloc (Nat.le_refl _) _).alloc (by simp) _
 have HB0 := hJ hB0
 refine (HV.out _ hB0).mono ?_
 rintro e w1 ⟨rfl, hb⟩
 have hblk : w1.heap[w.heap.size + 1]? = some (.cells #[.int .i64 0, .slice none 0 0] 65 (0, 0)) := (hb.block _ (by simp)).trans (by (simp only [kAG, kAE, Array.getElem?_push, Array.size_push]; simp))
 have hblk0 : w1.heap[w.heap.size]? = some (.cells #[.int .i64 x.const, .slice a x.terms.length c] 65 (0, 0)) := (hb.block _ (by simp <;> omega)).trans (by (simp only [kAG, kAE, Array.getElem?_push, Array.size_push]; simp))
 have y0 : w1.cell? ⟨w.heap.size, 0, none⟩ = some (.int .i64 x.const) := by simp [World.cell?, hblk0]
 have y1 : w1.cell? ⟨w.heap.size, 1, none⟩ = some (.slice a x.terms.length c) := by simp [World.cell?, hblk0]
 have z0 : w1.cell? ⟨w.heap.size + 1, 0, none⟩ = some (.int .i64 0) := by simp [World.cell?, hblk]
 have z1 : w1.cell? ⟨w.heap.size + 1, 1, none⟩ = some (.slice none 0 0) := by simp [World.cell?, hblk]
 have fz0 : w1.frozen? ⟨w.heap.size + 1, 0, none⟩ = false := by simp [World.frozen?, hblk]
 have fz1 : w1.frozen? ⟨w.heap.size + 1, 1, none⟩ = false := by simp [World.frozen?, hblk]
 have HW := hJ (hB0.trans (hb.mono hB0.size))
 have hsz : w.heap.size + 1 < w1.heap.size := by have := hb.size; simp at this; omega
 clear hB0
 by_cases hv : kAD x = true
 · have s0 : (w1.setCell ⟨w.heap.size + 1, 0, none⟩ (.int .i64 x.const)).cell? ⟨w.heap.size + 1, 0, none⟩ = some (.int .i64 x.const) := World.cell?_setCell_same' _ _ _ (by rw [z0]; rfl)
   have t1 : (w1.setCell ⟨w.heap.size + 1, 0, none⟩ (.int .i64 x.const)).cell? ⟨w.heap.size + 1, 1, none⟩ = some (.slice none 0 0) := (kC5 _ _ _ _ _ (by decide)).trans z1
   have s1 : ((w1.setCell ⟨w.heap.size + 1, 0, none⟩ (.int .i64 x.const)).setCell ⟨w.heap.size + 1, 1, none⟩ (.slice a x.terms.length c)).cell? ⟨w.heap.size + 1, 1, none⟩ = some (.slice a x.terms.length c) := World.cell?_setCell_same' _ _ _ (by rw [t1]; rfl)
   have hF : limL x = x ∧ limE x = 0 := by unfold limL limE; rw [hv]; exact ⟨rfl, rfl⟩
   have HF := hJ hF; clear hF
   go_wp2_with fail
   refine bodyPost_ret (v := .tuple #[.agg #[.int .i64 x.const, .slice a x.terms.length c], .int .i64 0]) (by simp [results, results124, go_sem, s0, s1]) rfl ?_
   refine ⟨⟨[.int .i64 x.const, .slice a x.terms.length c], by rw [HF.out.2], by rw [HF.out.1]; exact RLin.below HH.out ((HW.out.setCell (by simp) _).setCell (by simp) _)⟩, (HW.out.setCell (by simp) _).setCell (by simp) _⟩
 · have hv : kAD x = false := by simpa using hv
   have s0 : (w1.setCell ⟨w.heap.size + 1, 0, none⟩ (.int .i64 0)).cell? ⟨w.heap.size + 1, 0, none⟩ = some (.int .i64 0) := World.cell?_setCell_same' _ _ _ (by rw [z0]; rfl)
   have t1 : (w1.setCell ⟨w.heap.size + 1, 0, none⟩ (.int .i64 0)).cell? ⟨w.heap.size + 1, 1, none⟩ = some (.slice none 0 0) := (kC5 _ _ _ _ _ (by decide)).trans z1
   have s1 : ((w1.setCell ⟨w.heap.size + 1, 0, none⟩ (.int .i64 0)).setCell ⟨w.heap.size + 1, 1, none⟩ (.slice none 0 0)).cell? ⟨w.heap.size + 1, 1, none⟩ = some (.slice none 0 0) := World.cell?_setCell_same' _ _ _ (by rw [t1]; rfl)
   have hF : limL x = ⟨0, []⟩ ∧ limE x = 3 := by unfold limL limE; rw [hv]; exact ⟨rfl, rfl⟩
   have HF := hJ hF; clear hF
   go_wp2_with fail
   refine bodyPost_ret (v := .tuple #[.agg #[.int .i64 0, .slice none 0 0], .int .i64 3]) (by simp [results, results124, go_sem, s0, s1]) rfl ?_
   refine ⟨⟨[.int .i64 0, .slice none 0 0], by rw [HF.out.2], by rw [HF.out.1]; exact RLin.zero _ _⟩, (HW.out.setCell (by simp) _).setCell (by simp) _⟩
theorem kD4 : ElemOf Tryz.prog 77 103 RBnd.size 112 := ⟨by kernel_rfl, by kernel_rfl⟩
def zeroL (x : Lin) : Bool := x.const == 0 && x.terms.length == 0
def bare (kind : Int) (name : Str) : Bnd := ⟨kind, name, ⟨0, []⟩, ⟨⟨#[]⟩, []⟩, ⟨#[]⟩⟩
def addV (l : List Bnd) (kind : Int) (name : Str) : List Bnd := if 0 ≤ kBA l kind name then l else l ++ [bare kind name]
theorem ref11_zero {x : Lin} {S : Blk} {cs : List Value} {w : World} (h : RLin.rd S w cs x) :
 Calls Tryz.prog 164 #[.agg cs.toArray] w fun e w' => e = .returned (.bool (zeroL x)) ∧ Below w.heap.size w w' := by
 obtain ⟨t, rfl, a, c, rfl, hs⟩ := h; have hm := hs.small
 have HN : Hid (zeroL x = (x.const == 0 && x.terms.length == 0)) := hJ rfl
 clear hs
 generalize x.terms.length = n at *
 obtain ⟨B0, ya, hW0⟩ := box1 w 65 [.int .i64 x.const, .slice a n c]; have xa0 := box0 ya 0 _ rfl; have xa1 := box0 ya 1 _ rfl; clear ya
 have HE : Hid (((n : Int) == 0) = (n == 0)) := hJ (by rw [Bool.eq_iff_iff, beq_iff_eq, beq_iff_eq]; omega)
 by_cases h0 : x.const = 0
 · have q : (x.const == 0) = true := beq_iff_eq.2 h0
   clear h0
   go_enter func164, ntmps164
   go_wp2_with fail
   go_ret
   exact ⟨by rw [HN.out, q, Bool.true_and, ← HE.out]; rfl, B0.out⟩
 · have q : (x.const == 0) = false := beq_eq_false_iff_ne.2 h0
   clear h0
   go_enter func164, ntmps164
   go_wp2_with fail
   go_ret
   exact ⟨by rw [HN.out, q]; rfl, B0.out⟩
theorem kDQ {S : Blk} {w : World} {base : Nat} {v : Value} {l : List Bnd} (h : Own RBnd 103 S w base v l) (hbase : base ≤ w.heap.size) (hl : l.length ≤ 1000000) (kind : Int) (name : Str) :
 Calls Tryz.prog 126 #[v, .int .i64 kind, .string name] w fun e w' => (∃ v', e = .returned v' ∧ Own RBnd 103 S w' base v' (addV l kind name)) ∧ Below base w w' := by
 obtain ⟨a, c, rfl, hsl⟩ := h.sl; have HO := hJ h; have HC := hJ (kEA l a _ c w hsl kind name)
 have HN : Hid (addV l kind name = if 0 ≤ kBA l kind name then l else l ++ [bare kind name]) := hJ rfl
 clear h hsl
 generalize kBA l kind name = d at *
 by_cases hd : 0 ≤ d
 · have HF : Hid (addV l kind name = l) := hJ (by rw [HN.out, if_pos hd])
   go_enter func126, ntmps126
   go_wp2_with fail
   refine (HC.out).mono ?_
   rintro e _ ⟨rfl, rfl⟩
   go_wp2_with fail
   go_ret
   exact ⟨⟨_, rfl, by rw [HF.out]; exact HO.out⟩, Below.refl _ _⟩
 · have HF : Hid (addV l kind name = l ++ [bare kind name]) := hJ (by rw [HN.out, if_neg hd])
   have hd2 : d < 0 := by omega
   go_enter func126, ntmps126
   go_wp2_with fail
   refine HC.out.mono ?_
   rintro e _ ⟨rfl, rfl⟩
   go_wp2_with (at_builtin; refine kA8 kD4 rfl _ _ rfl base _ _ rfl (HO.out.alloc _) _ (bare kind name) [.int .i64 kind, .string name, .int .i64 0, .slice none 0 0, .string ⟨#[]⟩, .slice none 0 0, .string ⟨#[]⟩] rfl ⟨_, _, rfl, ⟨none, 0, rfl, Sl.empty _ _ _⟩, ⟨none, 0, rfl, Sl.empty _ _ _⟩⟩ (kA4 103 (by (simp only [kAG, kAE, Array.getElem?_push, Array.size_push]; simp))) (by omega) (by unfold maxLen; omega) (by simp; omega) ?_; intro v9 w9 hown9 hb9 hk9)
   go_ret
   exact ⟨⟨_, rfl, by rw [HF.out]; exact hown9⟩, ((Below.refl _ _).alloc hbase _).trans hb9⟩
end Go.Proofs.YtjongcdlginjlaaGreatDoor
