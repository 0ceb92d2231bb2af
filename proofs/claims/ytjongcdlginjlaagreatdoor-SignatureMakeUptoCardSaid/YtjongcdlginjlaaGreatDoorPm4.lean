/- The claim's texts, part 4: contracts of the functions that the statement reaches, and what they say of the data. -/
import Derived.Test.YtjongcdlginjlaaGreatDoorPm3
set_option maxRecDepth 100000
set_option maxHeartbeats 8000000
set_option linter.all false
namespace Go.Proofs.YtjongcdlginjlaaGreatDoor
open Go.Proofs.Tryz
open Go.RowKit
structure Raw (k : Nat) (E : TypeId) (w : World) (g : Nat) (css : List (List Value)) (rest : List Value) : Prop where
 len : ∀ cs ∈ css, cs.length = k
 bx : Bx w g E (css.flatten ++ rest)
theorem Raw.lt {k : Nat} {E : TypeId} {w : World} {g : Nat} {css : List (List Value)} {rest : List Value} (h : Raw k E w g css rest) : g < w.heap.size := h.bx.lt
theorem flat_lt {css : List (List Value)} {k : Nat} (hm : ∀ cs ∈ css, cs.length = k) {i j : Nat} (hi : i < css.length) (hj : j < k) : i * k + j < css.flatten.length := by
 rw [kBD hm]
 have := Nat.mul_le_mul_right k (show i + 1 ≤ css.length from hi)
 rw [Nat.add_mul, Nat.one_mul] at this
 omega
theorem Raw.cell {k : Nat} {E : TypeId} {w : World} {g : Nat} {css : List (List Value)} {rest : List Value} (h : Raw k E w g css rest) {i : Nat} {cs : List Value} (hi : css[i]? = some cs) (j : Nat) (u : Value) (hu : cs[j]? = some u) : w.cell? ⟨g, i * k + j, none⟩ = some u := by
 refine h.bx.cell (i * k + j) u ?_
 have hil : i < css.length := by
  rcases Nat.lt_or_ge i css.length with q | q
  · exact q
  · rw [List.getElem?_eq_none q] at hi; cases hi
 have hj : j < k := by
  have := h.len cs (List.mem_iff_getElem?.2 ⟨i, hi⟩)
  rcases Nat.lt_or_ge j cs.length with q | q
  · omega
  · rw [List.getElem?_eq_none q] at hu; cases hu
 rw [List.getElem?_append_left (flat_lt h.len hil hj)]
 exact kEC h.len i cs j u hi hu
theorem Raw.fz {k : Nat} {E : TypeId} {w : World} {g : Nat} {css : List (List Value)} {rest : List Value} (h : Raw k E w g css rest) (o : Nat) : w.frozen? ⟨g, o, none⟩ = false := h.bx.fz o
theorem flat_set {k : Nat} {j : Nat} (hj : j < k) (u : Value) : ∀ (css : List (List Value)) (i : Nat) (cs : List Value) (rest : List Value), (∀ cs ∈ css, cs.length = k) → css[i]? = some cs → (css.flatten ++ rest).set (i * k + j) u = (css.set i (cs.set j u)).flatten ++ rest
 | [], i, cs, rest, hm, hi => by simp at hi
 | c :: css, 0, cs, rest, hm, hi => by
   simp at hi; subst hi
   have := hm c (List.mem_cons_self ..)
   rw [Nat.zero_mul, Nat.zero_add, List.flatten_cons, List.set_cons_zero, List.flatten_cons, List.append_assoc, List.append_assoc, List.set_append_left _ _ (by omega)]
 | c :: css, i + 1, cs, rest, hm, hi => by
   have hc := hm c (List.mem_cons_self ..)
   have ih := flat_set hj u css i cs rest (fun d hd => hm d (List.mem_cons_of_mem _ hd)) (by simpa using hi)
   rw [List.flatten_cons, List.append_assoc, List.set_append_right _ _ (by rw [hc, Nat.succ_mul]; omega), hc, show (i + 1) * k + j - k = i * k + j by rw [Nat.succ_mul]; omega, ih, List.set_cons_succ, List.flatten_cons, List.append_assoc]
theorem Raw.set {k : Nat} {E : TypeId} {w : World} {g : Nat} {css : List (List Value)} {rest : List Value} (h : Raw k E w g css rest) {i : Nat} {cs : List Value} (hi : css[i]? = some cs) {j : Nat} (hj : j < k) (u : Value) : Raw k E (w.setCell ⟨g, i * k + j, none⟩ u) g (css.set i (cs.set j u)) rest := by
 refine ⟨fun d hd => ?_, ?_⟩
 · rcases List.mem_or_eq_of_mem_set hd with q | q
   · exact h.len d q
   · rw [q, List.length_set]; exact h.len cs (List.mem_iff_getElem?.2 ⟨i, hi⟩)
 · have := h.bx.set (i * k + j) u
   rwa [flat_set hj u css i cs rest h.len hi] at this
theorem Raw.below {k : Nat} {E : TypeId} {w w' : World} {g B : Nat} {css : List (List Value)} {rest : List Value} (h : Raw k E w g css rest) (hb : Below B w w') (hg : g < B) : Raw k E w' g css rest := ⟨h.len, h.bx.below hb hg⟩
theorem Raw.alloc {k : Nat} {E : TypeId} {w : World} {g : Nat} {css : List (List Value)} {rest : List Value} (h : Raw k E w g css rest) (o : Obj) : Raw k E (w.alloc o) g css rest := ⟨h.len, h.bx.alloc o⟩
theorem Raw.drew {k : Nat} {E : TypeId} {w : World} {g : Nat} {css : List (List Value)} {rest : List Value} (h : Raw k E w g css rest) : Raw k E w.drew g css rest := ⟨h.len, h.bx.drew⟩
theorem Raw.other {k : Nat} {E : TypeId} {w : World} {g : Nat} {css : List (List Value)} {rest : List Value} (h : Raw k E w g css rest) {a : Addr} {u : Value} (hne : a.block ≠ g) : Raw k E (w.setCell a u) g css rest := ⟨h.len, h.bx.other hne⟩
theorem Raw.keep {k : Nat} {E : TypeId} {w w' : World} {g : Nat} {css : List (List Value)} {rest : List Value} (h : Raw k E w g css rest) (hb : w'.heap[g]? = w.heap[g]?) : Raw k E w' g css rest := ⟨h.len, hb.trans h.bx⟩
theorem Raw.setRest {k : Nat} {E : TypeId} {w : World} {g : Nat} {css : List (List Value)} {rest : List Value} (h : Raw k E w g css rest) {o : Nat} (ho : css.length * k ≤ o) (u : Value) : Raw k E (w.setCell ⟨g, o, none⟩ u) g css (rest.set (o - css.length * k) u) := by
 refine ⟨h.len, ?_⟩
 have := h.bx.set o u
 rwa [List.set_append_right _ _ (by rw [kBD h.len]; exact ho), kBD h.len] at this
theorem Raw.take {k : Nat} {E : TypeId} {w : World} {g : Nat} {css : List (List Value)} {rest : List Value} (h : Raw k E w g css rest) (m : Nat) : Raw k E w g (css.take m) ((css.drop m).flatten ++ rest) := by
 refine ⟨fun d hd => h.len d (List.mem_of_mem_take hd), ?_⟩
 rw [← List.append_assoc, ← List.flatten_append, List.take_append_drop]
 exact h.bx
def Lies {α : Type} (R : Rep α) (S : Blk) (w : World) (g : Nat) (css : List (List Value)) (l : List α) : Prop := css.length = l.length ∧ ∀ (i : Nat) (x : α), l[i]? = some x → ∃ cs, css[i]? = some cs ∧ R.rd (fun q => S q ∧ q ≠ g) w cs x
theorem Lies.at_ {α : Type} [Inhabited α] {R : Rep α} {S : Blk} {w : World} {g : Nat} {css : List (List Value)} {l : List α} (h : Lies R S w g css l) {i : Nat} (hi : i < l.length) : ∃ cs, css[i]? = some cs ∧ R.rd (fun q => S q ∧ q ≠ g) w cs (l.getD i default) := h.2 i _ (kCY hi)
theorem Lies.frame {α : Type} {R : Rep α} {S : Blk} {w w' : World} {g : Nat} {css : List (List Value)} {l : List α} (h : Lies R S w g css l) (hf : ∀ q, S q → q ≠ g → q < w.heap.size → w'.heap[q]? = w.heap[q]?) : Lies R S w' g css l :=
 ⟨h.1, fun i x hx => let ⟨cs, e, r⟩ := h.2 i x hx; ⟨cs, e, R.frame r fun q hq hlt => hf q hq.1 hq.2 hlt⟩⟩
theorem Lies.below {α : Type} {R : Rep α} {S : Blk} {w w' : World} {g : Nat} {css : List (List Value)} {l : List α} (h : Lies R S w g css l) (hb : Below w.heap.size w w') : Lies R S w' g css l := h.frame fun q _ _ hlt => hb.block q hlt
theorem Lies.self {α : Type} {R : Rep α} {S : Blk} {w : World} {g : Nat} {css : List (List Value)} {l : List α} (h : Lies R S w g css l) (o : Nat) (u : Value) : Lies R S (w.setCell ⟨g, o, none⟩ u) g css l := h.frame fun q _ hne _ => kAA (fun e => hne e.symm)
theorem Lies.other {α : Type} {R : Rep α} {S : Blk} {w : World} {g : Nat} {css : List (List Value)} {l : List α} (h : Lies R S w g css l) {a : Addr} (hS : ¬S a.block) (u : Value) : Lies R S (w.setCell a u) g css l := h.frame fun q hq _ _ => kAA (fun e => hS (by rw [e]; exact hq))
theorem Lies.drew {α : Type} {R : Rep α} {S : Blk} {w : World} {g : Nat} {css : List (List Value)} {l : List α} (h : Lies R S w g css l) : Lies R S w.drew g css l := h.frame fun _ _ _ _ => rfl
theorem Lies.mono {α : Type} {R : Rep α} {S S' : Blk} {w : World} {g : Nat} {css : List (List Value)} {l : List α} (h : Lies R S w g css l) (hs : ∀ q, S q → q < w.heap.size → S' q) : Lies R S' w g css l :=
 ⟨h.1, fun i x hx => let ⟨cs, e, r⟩ := h.2 i x hx; ⟨cs, e, R.mono r fun q hq hlt => ⟨hs q hq.1 hlt, hq.2⟩⟩⟩
theorem Lies.set {α : Type} {R : Rep α} {S : Blk} {w : World} {g : Nat} {css : List (List Value)} {l : List α} (h : Lies R S w g css l) (i : Nat) {cs : List Value} {y : α} (hr : R.rd (fun q => S q ∧ q ≠ g) w cs y) : Lies R S w g (css.set i cs) (l.set i y) := by
 refine ⟨by rw [List.length_set, List.length_set, h.1], fun j x hx => ?_⟩
 by_cases hij : i = j
 · subst hij
   have hi : i < l.length := by
    rcases Nat.lt_or_ge i l.length with q | q
    · exact q
    · rw [List.getElem?_eq_none (by rw [List.length_set]; exact q)] at hx; cases hx
   rw [List.getElem?_set_self hi] at hx
   cases hx
   exact ⟨cs, List.getElem?_set_self (by rw [h.1]; exact hi), hr⟩
 · rw [List.getElem?_set_ne hij] at hx
   obtain ⟨ds, e, r⟩ := h.2 j x hx
   exact ⟨ds, by rw [List.getElem?_set_ne hij]; exact e, r⟩
theorem Lies.take {α : Type} {R : Rep α} {S : Blk} {w : World} {g : Nat} {css : List (List Value)} {l : List α} (h : Lies R S w g css l) (m : Nat) : Lies R S w g (css.take m) (l.take m) := by
 refine ⟨by rw [List.length_take, List.length_take, h.1], fun j x hx => ?_⟩
 rw [List.getElem?_take] at hx
 split at hx
 · next q =>
   obtain ⟨ds, e, r⟩ := h.2 j x hx
   exact ⟨ds, by rw [List.getElem?_take, if_pos q]; exact e, r⟩
 · cases hx
theorem Own.raw {α : Type} {R : Rep α} {E : TypeId} {S : Blk} {w : World} {base : Nat} {v : Value} {l : List α} (h : Own R E S w base v l) (hl : 0 < l.length) : ∃ g c css rest, v = .slice (some ⟨g, 0, none⟩) l.length c ∧ base ≤ g ∧ Raw R.size E w g css rest ∧ Lies R S w g css l ∧ l.length ≤ c ∧ c ≤ maxLen ∧ css.length * R.size + rest.length = c * R.size := by
 obtain ⟨css, hcl, hrow, hel⟩ := h.row
 obtain ⟨q0, ⟨hv, h0⟩ | ⟨g, c, cur, rfl, hg, hh, hn, hm, hsz, ht⟩⟩ := hrow
 · omega
 · have hlen : ∀ cs ∈ css, cs.length = R.size := fun cs' hm' => by
    obtain ⟨i', hi', rfl⟩ := List.getElem_of_mem hm'
    obtain ⟨cs2, e2, r2⟩ := hel i' (l[i']'(by omega)) (List.getElem?_eq_getElem (by omega))
    rw [List.getElem?_eq_getElem hi'] at e2
    cases e2
    exact R.len r2
   refine ⟨g, c, css, cur.toList.drop (l.length * R.size), rfl, hg, ⟨hlen, ?_⟩, ⟨hcl, fun i x hx => ?_⟩, hn, hm, ?_⟩
   · unfold Bx
     rw [← ht, List.take_append_drop]
     simpa using hh
   · obtain ⟨cs, e1, e2⟩ := hel i x hx
     exact ⟨cs, e1, R.mono e2 fun q hq _ => ⟨hq.1, fun e => hq.2 (by rw [e]; rfl)⟩⟩
   · have : cur.toList.length = c * R.size := by rw [← hsz]; simp
     have h2 : l.length * R.size ≤ c * R.size := Nat.mul_le_mul_right _ hn
     rw [List.length_drop, this, hcl]
     omega
theorem Raw.own {α : Type} {R : Rep α} {E : TypeId} {S : Blk} {w : World} {base g c : Nat} {css : List (List Value)} {rest : List Value} {l : List α} (h : Raw R.size E w g css rest) (hl : Lies R S w g css l) (hg : base ≤ g) (hn : l.length ≤ c) (hm : c ≤ maxLen) (hsz : css.length * R.size + rest.length = c * R.size) : Own R E S w base (.slice (some ⟨g, 0, none⟩) l.length c) l := by
 refine ⟨css, hl.1, ⟨by rw [kBD h.len, hl.1], .inr ⟨g, c, _, rfl, hg, h.bx, hn, hm, by simp [kBD h.len]; omega, ?_⟩⟩, fun i x hx => ?_⟩
 · rw [← hl.1]
   show ((css.flatten ++ rest).toArray.toList).take _ = _
   simp only [List.toList_toArray]
   rw [List.take_append_of_le_length (by rw [kBD h.len]; exact Nat.le_refl _), List.take_of_length_le (by rw [kBD h.len]; exact Nat.le_refl _)]
 · obtain ⟨cs, e1, e2⟩ := hl.2 i x hx
   exact ⟨cs, e1, R.mono e2 fun q hq _ => ⟨hq.1, fun e => hq.2 (by simp [Value.ownBlock] at e; exact e.symm)⟩⟩
structure Kb (g : Nat) (w w' : World) : Prop where
 os : w'.os = w.os
 tape : w'.tape = w.tape
 output : w'.output = w.output
 size : w.heap.size ≤ w'.heap.size
 block : ∀ q, q < w.heap.size → q ≠ g → w'.heap[q]? = w.heap[q]?
theorem Kb.refl (g : Nat) (w : World) : Kb g w w := ⟨rfl, rfl, rfl, Nat.le_refl _, fun _ _ _ => rfl⟩
theorem Kb.later {g : Nat} {a b c : World} (h : Kb g a b) (k : Below b.heap.size b c) : Kb g a c := ⟨k.os.trans h.os, k.tape.trans h.tape, k.output.trans h.output, Nat.le_trans h.size k.size, fun q hq hne => (k.block q (Nat.lt_of_lt_of_le hq h.size)).trans (h.block q hq hne)⟩
theorem Kb.set {g : Nat} {a b : World} (h : Kb g a b) (o : Nat) (u : Value) : Kb g a (b.setCell ⟨g, o, none⟩ u) := ⟨h.os, h.tape, h.output, by simpa using h.size, fun q hq hne => (kAA (fun e => hne e.symm)).trans (h.block q hq hne)⟩
theorem Kb.drew {g : Nat} {a b : World} (h : Kb g a b) : Kb g a b.drew := ⟨h.os, h.tape, h.output, h.size, h.block⟩
theorem Kb.sets {g : Nat} {a : World} : ∀ (vs : List Value) {b : World} (h : Kb g a b) (o : Nat), Kb g a (b.setCells g o vs)
 | [], b, h, o => h
 | v :: vs, b, h, o => Kb.sets vs (h.set o v) (o + 1)
theorem Kb.below {g B : Nat} {w w' : World} (h : Kb g w w') (hg : B ≤ g) (hB : B ≤ w.heap.size) : Below B w w' := ⟨h.os, h.tape, h.output, h.size, fun k hk => h.block k (by omega) (by omega)⟩
structure Kl (v v' : Value) (w w' : World) : Prop where
 block : ∀ k, k < w.heap.size → v.ownBlock ≠ some k → w'.heap[k]? = w.heap[k]?
 own : ∀ q, v'.ownBlock = some q → v.ownBlock = some q ∨ w.heap.size ≤ q
theorem Kl.refl (v : Value) (w : World) : Kl v v w w := ⟨fun _ _ _ => rfl, fun q h => .inl h⟩
theorem Kl.below {v : Value} {w w' : World} (h : Below w.heap.size w w') : Kl v v w w' := ⟨fun k hk _ => h.block k hk, fun q h => .inl h⟩
theorem Kl.trans {v v' v'' : Value} {w w' w'' : World} (h : Kl v v' w w') (h2 : Kl v' v'' w' w'') (hs : w.heap.size ≤ w'.heap.size) : Kl v v'' w w'' :=
 ⟨fun k hk hne => by rw [h2.block k (by omega) (fun e => (h.own k e).elim hne (fun q => by omega)), h.block k hk hne],
  fun q hq => (h2.own q hq).elim (fun e => h.own q e) (fun e => .inr (by omega))⟩
theorem Kb.kl {g : Nat} {w w' : World} (h : Kb g w w') (n c n' c' : Nat) : Kl (.slice (some ⟨g, 0, none⟩) n c) (.slice (some ⟨g, 0, none⟩) n' c') w w' := ⟨fun k hk hne => h.block k hk (fun e => hne (by rw [e]; rfl)), fun q hq => .inl hq⟩
structure PreC {α : Type} (cmp : α → α → Int) : Prop where
 anti : ∀ a b, cmp b a = -cmp a b
 trans : ∀ a b c, cmp a b ≤ 0 → cmp b c ≤ 0 → cmp a c ≤ 0
theorem TotC.pre {α : Type} {cmp : α → α → Int} (t : TotC cmp) : PreC cmp := ⟨t.anti, fun a b c h1 h2 => by
 by_cases e1 : cmp a b = 0
 · rw [(t.zero _ _).1 e1]; exact h2
 · by_cases e2 : cmp b c = 0
   · rw [← (t.zero _ _).1 e2]; exact h1
   · exact Int.le_of_lt (t.trans a b c (by omega) (by omega))⟩
structure InsAt {α : Type} (cmp : α → α → Int) (l0 l : List α) (A : List α) (x : α) (B C : List α) : Prop where
 eq : l = A ++ x :: (B ++ C)
 perm : l.Perm l0
 le : Le cmp (A ++ B)
 up : ∀ b ∈ B, cmp x b ≤ 0
structure InsO {α : Type} (cmp : α → α → Int) (l0 l : List α) (i : Nat) : Prop where
 perm : l.Perm l0
 le : Le cmp (l.take i)
theorem InsO.start {α : Type} (cmp : α → α → Int) (l : List α) : InsO cmp l l 1 := ⟨List.Perm.refl _, by
 cases l with
 | nil => exact List.Pairwise.nil
 | cons a l => simp [Le]⟩
theorem InsO.enter {α : Type} {cmp : α → α → Int} {l0 l : List α} {i : Nat} (h : InsO cmp l0 l i) (hi : i < l.length) : InsAt cmp l0 l (l.take i) l[i] [] (l.drop (i + 1)) :=
 ⟨by rw [List.nil_append, ← List.drop_eq_getElem_cons hi, List.take_append_drop], h.perm, by rw [List.append_nil]; exact h.le, fun b hb => by simp at hb⟩
theorem InsAt.down {α : Type} {cmp : α → α → Int} {l0 l A B C : List α} {a x : α} (h : InsAt cmp l0 l (A ++ [a]) x B C) (hx : cmp x a < 0) : InsAt cmp l0 (A ++ x :: ((a :: B) ++ C)) A x (a :: B) C := by
 refine ⟨rfl, ?_, by simpa using h.le, fun b hb => ?_⟩
 · refine List.Perm.trans ?_ h.perm
   rw [h.eq, List.append_assoc]
   exact List.Perm.append_left A (List.Perm.swap a x (B ++ C))
 · rcases List.mem_cons.1 hb with q | q
   · rw [q]; exact Int.le_of_lt hx
   · exact h.up b q
theorem InsAt.out0 {α : Type} {cmp : α → α → Int} {l0 l B C : List α} {x : α} (h : InsAt cmp l0 l [] x B C) : InsO cmp l0 l (B.length + 1) := by
 refine ⟨h.perm, ?_⟩
 rw [h.eq, List.nil_append, List.take_succ_cons, List.take_left]
 exact List.pairwise_cons.2 ⟨h.up, by have := h.le; rwa [List.nil_append] at this⟩
theorem InsAt.out {α : Type} {cmp : α → α → Int} (t : PreC cmp) {l0 l A B C : List α} {a x : α} (h : InsAt cmp l0 l (A ++ [a]) x B C) (hx : ¬cmp x a < 0) : InsO cmp l0 l (A.length + 1 + B.length + 1) := by
 have hax : cmp a x ≤ 0 := by rw [t.anti x a]; omega
 refine ⟨h.perm, ?_⟩
 have e : l.take (A.length + 1 + B.length + 1) = (A ++ [a]) ++ x :: B := by
  rw [h.eq, show (A ++ [a]) ++ x :: (B ++ C) = ((A ++ [a]) ++ x :: B) ++ C by simp, List.take_append_of_le_length (by simp; omega), List.take_of_length_le (by simp; omega)]
 rw [e]; have hl := List.pairwise_append.1 h.le
 refine List.pairwise_append.2 ⟨hl.1, List.pairwise_cons.2 ⟨h.up, hl.2.1⟩, fun u hu v hv => ?_⟩
 have hua : u = a ∨ cmp u a ≤ 0 := by
  rcases List.mem_append.1 hu with q | q
  · exact .inr ((List.pairwise_append.1 hl.1).2.2 u q a (List.mem_singleton.2 rfl))
  · exact .inl (List.mem_singleton.1 q)
 rcases List.mem_cons.1 hv with q | q
 · subst q
   rcases hua with r | r
   · rw [r]; exact hax
   · exact t.trans _ _ _ r hax
 · exact hl.2.2 u hu v q
theorem InsO.done {α : Type} {cmp : α → α → Int} {l0 l : List α} {i : Nat} (h : InsO cmp l0 l i) (hi : l.length ≤ i) : l.Perm l0 ∧ Le cmp l := ⟨h.perm, by have := h.le; rwa [List.take_of_length_le hi] at this⟩
theorem swap_at {α : Type} (A : List α) (a x : α) (D : List α) : ((A ++ [a] ++ x :: D).set (A.length + 1) a).set A.length x = A ++ x :: a :: D := by
 rw [List.set_append_right _ _ (by simp), List.append_assoc, List.set_append_right _ _ (by simp)]
 simp
theorem at_x {α : Type} (A : List α) (x : α) (D : List α) : (A ++ x :: D)[A.length]? = some x := by simp
theorem at_a {α : Type} (A : List α) (a x : α) (D : List α) : (A ++ [a] ++ x :: D)[A.length]? = some a := by simp
theorem Raw.put2 {E : TypeId} {w : World} {g : Nat} {css : List (List Value)} {rest : List Value} (h : Raw 2 E w g css rest) {i : Nat} (hi : i < css.length) (u0 u1 : Value) : Raw 2 E ((w.setCell ⟨g, i * 2, none⟩ u0).setCell ⟨g, i * 2 + 1, none⟩ u1) g (css.set i [u0, u1]) rest := by
 have hg := List.getElem?_eq_getElem hi; have hl := h.len css[i] (List.getElem_mem hi)
 have h1 := h.set hg (j := 0) (by decide) u0
 have h2 := h1.set (i := i) (cs := css[i].set 0 u0) (List.getElem?_set_self hi) (j := 1) (by decide) u1
 rw [List.set_set] at h2; rw [Nat.add_zero] at h2
 match h3 : css[i], hl with
 | [p, q], _ => rw [h3] at h2; exact h2
theorem Raw.setCells {k : Nat} {E : TypeId} {g : Nat} {css : List (List Value)} : ∀ (vs : List Value) {w : World} {rest : List Value} (h : Raw k E w g css rest) {o : Nat} (ho : css.length * k ≤ o), ∃ rest', Raw k E (w.setCells g o vs) g css rest' ∧ rest'.length = rest.length
 | [], w, rest, h, o, ho => ⟨rest, h, rfl⟩
 | v :: vs, w, rest, h, o, ho => by
   obtain ⟨rest', h1, h2⟩ := Raw.setCells vs (h.setRest ho v) (o := o + 1) (by omega)
   exact ⟨rest', h1, by rw [h2, List.length_set]⟩
theorem kEL (g : Nat) : ∀ (vs : List Value) (w : World) (o q : Nat), q ≠ g → (w.setCells g o vs).heap[q]? = w.heap[q]?
 | [], w, o, q, h => rfl
 | v :: vs, w, o, q, h => (kEL g vs _ (o + 1) q h).trans (kAA (fun e => h e.symm))
theorem Below.setCells {B : Nat} {a : World} {g : Nat} (hg : B ≤ g) : ∀ (vs : List Value) {w : World} (h : Below B a w) (o : Nat), Below B a (w.setCells g o vs)
 | [], w, h, o => h
 | v :: vs, w, h, o => Below.setCells hg vs (h.setCell hg v) (o + 1)
def kept {α : Type} [Inhabited α] (keep : Nat → Bool) (l : List α) (j : Nat) : List α := ((List.range j).filter keep).map (fun i => l.getD i default)
theorem kB1 {α : Type} [Inhabited α] (keep : Nat → Bool) (l : List α) (j : Nat) : kept keep l (j + 1) = if keep j then kept keep l j ++ [l.getD j default] else kept keep l j := by
 unfold kept
 rw [List.range_succ, List.filter_append, List.map_append]
 by_cases h : keep j = true
 · rw [if_pos h]; simp [h]
 · rw [if_neg h]; simp [h]
theorem kept_len {α : Type} [Inhabited α] (keep : Nat → Bool) (l : List α) (j : Nat) : (kept keep l j).length ≤ j := by
 unfold kept
 rw [List.length_map]
 have := List.length_filter_le keep (List.range j)
 rwa [List.length_range] at this
theorem kept_all {α : Type} [Inhabited α] (keep : Nat → Bool) (l : List α) (j : Nat) (hj : j ≤ l.length) (h : ∀ i, i < j → keep i = true) : kept keep l j = l.take j := by
 induction j with
 | zero => rfl
 | succ j ih => rw [kB1, if_pos (h j (by omega)), ih (by omega) (fun i hi => h i (by omega)), kAU (by omega)]
theorem kept_filter {α : Type} [Inhabited α] (p : α → Bool) (l : List α) (j : Nat) (hj : j ≤ l.length) : kept (fun i => p (l.getD i default)) l j = (l.take j).filter p := by
 induction j with
 | zero => rfl
 | succ j ih =>
   rw [kB1, kAU (by omega), List.filter_append, ih (by omega)]
   by_cases h : p (l.getD j default) = true
   · rw [if_pos h, List.filter_cons_of_pos h]; rfl
   · rw [if_neg h, List.filter_cons_of_neg h]; simp
structure KeepAt {α : Type} [Inhabited α] (keep : Nat → Bool) (l M : List α) (i : Nat) : Prop where
 len : M.length = l.length
 front : M.take (kept keep l i).length = kept keep l i
 back : M.drop i = l.drop i
theorem KeepAt.at_ {α : Type} [Inhabited α] {keep : Nat → Bool} {l M : List α} {i : Nat} (h : KeepAt keep l M i) (k : Nat) (hk : i ≤ k) : M.getD k default = l.getD k default := by
 have h1 : (M.drop i)[k - i]? = (l.drop i)[k - i]? := by rw [h.back]
 rw [List.getElem?_drop, List.getElem?_drop, show i + (k - i) = k by omega] at h1
 rw [List.getD_eq_getElem?_getD, List.getD_eq_getElem?_getD, h1]
theorem KeepAt.skip {α : Type} [Inhabited α] {keep : Nat → Bool} {l M : List α} {i : Nat} (h : KeepAt keep l M i) (hk : keep i = false) : KeepAt keep l M (i + 1) :=
 ⟨h.len, by rw [kB1, hk]; exact h.front, by rw [← List.drop_drop, ← List.drop_drop, h.back]⟩
theorem KeepAt.put {α : Type} [Inhabited α] {keep : Nat → Bool} {l M : List α} {i : Nat} (h : KeepAt keep l M i) (hi : i < l.length) (hk : keep i = true) : KeepAt keep l (M.set (kept keep l i).length (l.getD i default)) (i + 1) := by
 have hl := kept_len keep l i
 refine ⟨by rw [List.length_set]; exact h.len, ?_, ?_⟩
 · rw [kB1, if_pos hk, List.length_append, List.length_singleton, kAU (by rw [List.length_set, h.len]; omega), List.take_set_of_le (Nat.le_refl _), h.front]
   congr 2
   rw [List.getD_eq_getElem?_getD, List.getElem?_set_self (by rw [h.len]; omega)]; rfl
 · rw [List.drop_set_of_lt (by omega), ← List.drop_drop, h.back, List.drop_drop]
theorem KeepAt.same {α : Type} [Inhabited α] {keep : Nat → Bool} {l : List α} {i : Nat} (hi : i ≤ l.length) (h : ∀ j, j < i → keep j = true) : KeepAt keep l l i :=
 ⟨rfl, by rw [kept_all keep l i hi h, List.length_take, Nat.min_eq_left hi], rfl⟩
def newB {α : Type} [Inhabited α] (eq : α → α → Bool) (l : List α) (i : Nat) : Bool := i == 0 || !eq (l.getD i default) (l.getD (i - 1) default)
theorem newB_cons {α : Type} [Inhabited α] (eq : α → α → Bool) (a : α) (l : List α) (i : Nat) : newB eq (a :: l) (i + 2) = newB eq l (i + 1) := by
 unfold newB
 simp
theorem kept_cons {α : Type} [Inhabited α] (keep : Nat → Bool) (a : α) (l : List α) (n : Nat) : kept keep (a :: l) (n + 1) = (if keep 0 then [a] else []) ++ kept (fun i => keep (i + 1)) l n := by
 induction n with
 | zero => rw [kB1]; by_cases h : keep 0 = true <;> simp [h, kept]
 | succ n ih =>
   rw [kB1 keep, ih, kB1 (fun i => keep (i + 1))]
   by_cases h : keep (n + 1) = true
   · rw [if_pos h, if_pos h, List.append_assoc]; simp
   · rw [if_neg h, if_neg h]
theorem compG_kept {α : Type} [Inhabited α] {eq : α → α → Bool} (he : ∀ a b, eq a b = true ↔ a = b) : ∀ l : List α, kGZ eq l = kept (newB eq l) l l.length
 | [] => by unfold kGZ; rfl
 | [a] => by unfold kGZ; rfl
 | a :: b :: l => by
   have e1 : (fun i => newB eq (a :: b :: l) (i + 1 + 1)) = (fun i => newB eq (b :: l) (i + 1)) := by
    funext i; exact newB_cons eq a (b :: l) i
   have k1 : newB eq (a :: b :: l) (0 + 1) = !eq b a := by simp [newB]
   have hR : kept (newB eq (a :: b :: l)) (a :: b :: l) (l.length + 1 + 1) = a :: ((if (!eq b a) = true then [b] else []) ++ kept (fun i => newB eq (b :: l) (i + 1)) l l.length) := by
    rw [kept_cons, kept_cons, if_pos (show newB eq (a :: b :: l) 0 = true from rfl), k1, e1]; rfl
   have hB : ∀ c : α, kept (newB eq (c :: l)) (c :: l) (l.length + 1) = c :: kept (fun i => newB eq (c :: l) (i + 1)) l l.length := fun c => by
    rw [kept_cons, if_pos (show newB eq (c :: l) 0 = true from rfl)]; rfl
   rw [List.length_cons, List.length_cons, hR]
   unfold kGZ
   by_cases h : eq a b = true
   · have hab := (he a b).1 h
     subst hab; rw [if_pos h, compG_kept he (a :: l), List.length_cons, hB a, h]
     rfl
   · have hba : (!eq b a) = true := by
      rw [Bool.not_eq_true']
      exact Bool.eq_false_iff.2 (fun q => h ((he a b).2 ((he b a).1 q).symm))
     rw [if_neg h, compG_kept he (b :: l), List.length_cons, hB b, hba]
     rfl
 termination_by l => l.length
theorem last_of {α : Type} (A : List α) (h : 0 < A.length) : ∃ A' a, A = A' ++ [a] := by
 rcases List.eq_nil_or_concat A with q | ⟨A', a, q⟩
 · rw [q] at h; simp at h
 · exact ⟨A', a, by rw [q, List.concat_eq_append]⟩
theorem insSort_Lin {S : Blk} {w : World} {base : Nat} {v : Value} {l : List Lin} (h : Own RLin 65 S w base v l) (hbase : base ≤ w.heap.size) (hl : 0 < l.length) (hn : l.length ≤ 1000) (g : FuncId) (hen : Ent1 g) (cmp : Lin → Lin → Int) (hc : PreC cmp)
 (hcmp : ∀ (S' T' : Blk) (W : World) (x y : Lin) (cs ds : List Value), RLin.rd S' W cs x → RLin.rd T' W ds y → Calls Tryz.prog g #[.agg cs.toArray, .agg ds.toArray] W fun e w' => e = .returned (.int .i64 (cmp x y)) ∧ Below W.heap.size W w') :
 Calls Tryz.prog 151 #[v, .int .i64 0, .int .i64 l.length, .func (.func g) #[] #[]] w fun e w' => (e = .returned (.tuple #[]) ∧ ∃ m, m.Perm l ∧ Le cmp m ∧ Own RLin 65 S w' base v m ∧ Kl v v w w') ∧ Below base w w' := by
 obtain ⟨gb, c, css0, rest0, rfl, hgb, hR, hL, hlc, hcm, hsz⟩ := h.raw hl; have HR0 := hJ hR; have HL0 := hJ hL; have HI0 := hJ (InsO.start cmp l); have HS0 := hJ hsz; have HPre := hJ hc; have HCmp := hJ hcmp; clear hR hL hsz h hcmp hc
 generalize hnl : l.length = n at *
 have HN := hJ hnl; clear hnl
 go_enter func151, ntmps151
 go_wp2_with fail
 go_loopw [8] (fun iv wr => ∃ (i : Nat) (M : List Lin) (css : List (List Value)) (rest : List Value), 1 ≤ i ∧ i ≤ n ∧ iv = .int .i64 i ∧ Hid (InsO cmp l M i) ∧ Hid (Raw 2 65 wr gb css rest) ∧ Hid (Lies RLin S wr gb css M) ∧ Hid (css.length * 2 + rest.length = c * 2) ∧ Kb gb w wr) (fun iv _ => n - (intOf iv).toNat)
 case atStart => exact ⟨1, _, _, _, Nat.le_refl _, hl, rfl, HI0, HR0, HL0, HS0, Kb.refl _ _⟩
 case round =>
  obtain ⟨i, M, css, rest, hi1, hin, rfl, HI, HR, HL, HS, hB⟩ := hrel
  have HMl : Hid (M.length = n) := hJ (by rw [HI.out.perm.length_eq]; exact HN.out)
  by_cases hlt : i < n
  · have hiM : i < M.length := by rw [HMl.out]; exact hlt
    have HE := hJ (HI.out.enter hiM)
    have HAi : Hid ((M.take i).length = i) := hJ (by rw [List.length_take]; omega)
    generalize M[i] = x0 at *
    clear hiM
    go_wp2_with fail
    go_loopw [9] (fun jv wr => ∃ (j : Nat) (A : List Lin) (x : Lin) (B C M : List Lin) (css : List (List Value)) (rest : List Value), j ≤ i ∧ jv = .int .i64 j ∧ Hid (A.length = j ∧ A.length + B.length = i) ∧ Hid (InsAt cmp l M A x B C) ∧ Hid (Raw 2 65 wr gb css rest) ∧ Hid (Lies RLin S wr gb css M) ∧ Hid (css.length * 2 + rest.length = c * 2) ∧ Kb gb w wr) (fun jv _ => (intOf jv).toNat)
    case atStart => exact ⟨i, _, _, _, _, _, _, _, Nat.le_refl _, rfl, hJ ⟨HAi.out, by rw [HAi.out]; rfl⟩, HE, HR, HL, HS, hB⟩
    case round =>
     obtain ⟨j, A, x, B, C, M, css, rest, hji, rfl, HA, HE, HR, HL, HS, hB⟩ := hrel; clear HI HMl HAi
     by_cases hj : 0 < j
     · obtain ⟨A', a, rfl⟩ := last_of A (by rw [HA.out.1]; exact hj)
       obtain ⟨jp, rfl⟩ : ∃ jp, j = jp + 1 := ⟨j - 1, by omega⟩
       have HA' : Hid (A'.length = jp) := hJ (by have := HA.out.1; simp at this; exact this)
       have hgx : M[jp + 1]? = some x := by rw [HE.out.eq]; have := at_x (A' ++ [a]) x (B ++ C); rwa [HA.out.1] at this
       have hga : M[jp]? = some a := by rw [HE.out.eq]; have := at_a A' a x (B ++ C); rwa [HA'.out] at this
       obtain ⟨csx, hix, hrx⟩ := HL.out.2 _ _ hgx; obtain ⟨csa, hia, hra⟩ := HL.out.2 _ _ hga
       have HC := hJ (fun (t : Later wr) => HCmp.out _ _ t.w x a csx csa (RLin.below hrx t.b) (RLin.below hra t.b))
       obtain ⟨_, rfl, ax, cx, rfl, hsx⟩ := hrx; obtain ⟨_, rfl, aa, ca, rfl, hsa⟩ := hra; have x0 := HR.out.cell hix 0 _ rfl; have x1 := HR.out.cell hix 1 _ rfl; have a0 := HR.out.cell hia 0 _ rfl; have a1 := HR.out.cell hia 1 _ rfl; rw [Nat.add_zero] at x0 a0
       have HX := hJ (⟨_, rfl, ax, cx, rfl, hsx⟩ : RLin.rd (fun q => S q ∧ q ≠ gb) wr [.int .i64 x.const, .slice ax x.terms.length cx] x)
       have HAa := hJ (⟨_, rfl, aa, ca, rfl, hsa⟩ : RLin.rd (fun q => S q ∧ q ≠ gb) wr [.int .i64 a.const, .slice aa a.terms.length ca] a)
       have HIx : Hid (jp + 1 < css.length) := hJ (by
        rcases Nat.lt_or_ge (jp + 1) css.length with q | q
        · exact q
        · rw [List.getElem?_eq_none q] at hix; cases hix)
       have HMn : Hid (M.length = n) := hJ (by rw [HE.out.perm.length_eq]; exact HN.out)
       have HIX := hJ hix; have HIA := hJ hia; have hgl := HR.out.lt; clear hgx hga hix hia hsx hsa
       have hjn : (jp : Int) + 1 < (n : Int) := by omega
       have hjn0 : (jp : Int) < (n : Int) := by omega
       have hki : (((jp + 1 : Nat) : Int) - 1) = (jp : Int) := by omega
       have hj0 : (0 : Int) < ((jp + 1 : Nat) : Int) := by omega
       have X0 := Later.cell x0; have X1 := Later.cell x1; have A0 := Later.cell a0; have A1 := Later.cell a1; clear x0 x1 a0 a1
       have HDn := hJ (fun q : cmp x a < 0 => HE.out.down q)
       have HOut := hJ (fun q : ¬cmp x a < 0 => HE.out.out HPre.out q)
       have HEq : Hid (M = A' ++ [a] ++ x :: (B ++ C)) := hJ HE.out.eq
       generalize cmp x a = r at *
       by_cases hr : r < 0
       · have HDn2 := hJ (HDn.out hr)
         clear HDn HOut
         go_wp2_with fail
         refine kAB (by kernel_rfl) (by kernel_rfl) ?_
         repeat (go_big_quiet_step (first | fail | exact Later.call (HC.out _)))
         refine wpQuiet_nil ?_
         rintro _ ⟨t9, rfl⟩
         have HBq : Hid (Below wr.heap.size wr t9.w) := hJ t9.b
         generalize t9.w = wq at *
         clear X0 X1 A0 A1 HC; have HRq := hJ (HR.out.below HBq.out hgl); have x0 := HRq.out.cell HIX.out 0 _ rfl; have x1 := HRq.out.cell HIX.out 1 _ rfl; have a0 := HRq.out.cell HIA.out 0 _ rfl; have a1 := HRq.out.cell HIA.out 1 _ rfl; rw [Nat.add_zero] at x0 a0; have f0 := HRq.out.fz ((jp + 1) * 2); have f1 := HRq.out.fz ((jp + 1) * 2 + 1); have f2 := HRq.out.fz (jp * 2); have f3 := HRq.out.fz (jp * 2 + 1)
         go_wp2_with fail
         go_region
         all_goals go_wp2_with fail
         have HLn : Hid (Lies RLin S ((((wq.setCell ⟨gb, (jp + 1) * 2, none⟩ (.int .i64 a.const)).setCell ⟨gb, (jp + 1) * 2 + 1, none⟩ (.slice aa a.terms.length ca)).setCell ⟨gb, jp * 2, none⟩ (.int .i64 x.const)).setCell ⟨gb, jp * 2 + 1, none⟩ (.slice ax x.terms.length cx)) gb ((css.set (jp + 1) [.int .i64 a.const, .slice aa a.terms.length ca]).set jp [.int .i64 x.const, .slice ax x.terms.length cx]) (A' ++ x :: (a :: B ++ C))) := hJ (by
          have h1 := ((((HL.out.below HBq.out).self ((jp + 1) * 2) (.int .i64 a.const)).self ((jp + 1) * 2 + 1) (.slice aa a.terms.length ca)).self (jp * 2) (.int .i64 x.const)).self (jp * 2 + 1) (.slice ax x.terms.length cx)
          have hf : ∀ q, q ≠ gb → q < wr.heap.size → ((((wq.setCell ⟨gb, (jp + 1) * 2, none⟩ (.int .i64 a.const)).setCell ⟨gb, (jp + 1) * 2 + 1, none⟩ (.slice aa a.terms.length ca)).setCell ⟨gb, jp * 2, none⟩ (.int .i64 x.const)).setCell ⟨gb, jp * 2 + 1, none⟩ (.slice ax x.terms.length cx)).heap[q]? = wr.heap[q]? := fun q hne hlt => (kAA (fun e => hne e.symm)).trans ((kAA (fun e => hne e.symm)).trans ((kAA (fun e => hne e.symm)).trans ((kAA (fun e => hne e.symm)).trans (HBq.out.block q hlt))))
          have h2 := (h1.set (jp + 1) (RLin.frame HAa.out (fun q hq hlt => hf q hq.2 hlt))).set jp (RLin.frame HX.out (fun q hq hlt => hf q hq.2 hlt))
          have h3 := swap_at A' a x (B ++ C); rw [HA'.out, ← HEq.out] at h3; rw [h3] at h2
          exact h2)
         go_roundw
         case rel => exact ⟨jp, A', x, a :: B, C, _, _, rest, by omega, by go_num, hJ ⟨HA'.out, by have := HA.out.2; simp at this ⊢; omega⟩, HDn2, hJ ((HRq.out.put2 HIx.out _ _).put2 (i := jp) (by rw [List.length_set]; have := HIx.out; omega) _ _).drew, hJ HLn.out.drew, hJ (by rw [List.length_set, List.length_set]; exact HS.out), (((((hB.later HBq.out).set _ _).set _ _).set _ _).set _ _).drew⟩
         case measure => simp [intOf]
       · have HOut2 := hJ (HOut.out hr)
         clear HDn HOut
         go_wp2_with fail
         refine kAB (by kernel_rfl) (by kernel_rfl) ?_
         repeat (go_big_quiet_step (first | fail | exact Later.call (HC.out _)))
         refine wpQuiet_nil ?_
         rintro _ ⟨t9, rfl⟩
         have HBq : Hid (Below wr.heap.size wr t9.w) := hJ t9.b
         generalize t9.w = wq at *
         clear X0 X1 A0 A1 HC
         go_wp2_with fail
         go_roundw
         case rel => exact ⟨i + 1, _, _, _, by omega, by omega, by go_num, hJ (by have h1 := HOut2.out; have h2 := HA.out.2; simp at h2; rwa [show A'.length + 1 + B.length + 1 = i + 1 by omega] at h1), hJ (HR.out.below HBq.out hgl), hJ (HL.out.below HBq.out), HS, hB.later HBq.out⟩
         case measure => simp [intOf]; omega
     · obtain rfl : j = 0 := by omega
       obtain rfl : A = [] := List.eq_nil_of_length_eq_zero HA.out.1; have HOut := hJ HE.out.out0
       have hg : ¬(0 : Int) < ((0 : Nat) : Int) := by omega
       clear hj
       go_wp2_with fail
       refine kAB (by kernel_rfl) (by kernel_rfl) ?_
       repeat (go_big_quiet_step (fail))
       refine wpQuiet_nil ?_
       rintro _ ⟨t9, rfl⟩
       have HBq : Hid (Below wr.heap.size wr t9.w) := hJ t9.b
       have hgl := HR.out.lt
       generalize t9.w = wq at *
       go_wp2_with fail
       go_roundw
       case rel => exact ⟨i + 1, _, _, _, by omega, by omega, by go_num, hJ (by have h1 := HOut.out; have h2 := HA.out.2; simp at h2; rwa [h2] at h1), hJ (HR.out.below HBq.out hgl), hJ (HL.out.below HBq.out), HS, hB.later HBq.out⟩
       case measure => simp [intOf]; omega
  · have HD := hJ (HI.out.done (by rw [HMl.out]; omega))
    go_wp2_with fail
    go_end0
    have hO := HR.out.own HL.out hgb (by rw [HMl.out]; exact hlc) hcm HS.out
    rw [HMl.out] at hO
    exact ⟨⟨rfl, M, HD.out.1, HD.out.2, hO, hB.kl _ _ _ _⟩, hB.below hgb hbase⟩
theorem Raw.put6 {E : TypeId} {w : World} {g : Nat} {css : List (List Value)} {rest : List Value} (h : Raw 6 E w g css rest) {i : Nat} (hi : i < css.length) (u0 u1 u2 u3 u4 u5 : Value) : Raw 6 E ((((((w.setCell ⟨g, i * 6, none⟩ u0).setCell ⟨g, i * 6 + 1, none⟩ u1).setCell ⟨g, i * 6 + 2, none⟩ u2).setCell ⟨g, i * 6 + 3, none⟩ u3).setCell ⟨g, i * 6 + 4, none⟩ u4).setCell ⟨g, i * 6 + 5, none⟩ u5) g (css.set i [u0, u1, u2, u3, u4, u5]) rest := by
 have hg := List.getElem?_eq_getElem hi; have hl := h.len css[i] (List.getElem_mem hi)
 have h1 := h.set hg (j := 0) (by decide) u0
 have h2 := h1.set (i := i) (List.getElem?_set_self hi) (j := 1) (by decide) u1
 rw [List.set_set] at h2
 have h3 := h2.set (i := i) (List.getElem?_set_self hi) (j := 2) (by decide) u2
 rw [List.set_set] at h3
 have h4 := h3.set (i := i) (List.getElem?_set_self hi) (j := 3) (by decide) u3
 rw [List.set_set] at h4
 have h5 := h4.set (i := i) (List.getElem?_set_self hi) (j := 4) (by decide) u4
 rw [List.set_set] at h5
 have h6 := h5.set (i := i) (List.getElem?_set_self hi) (j := 5) (by decide) u5
 rw [List.set_set] at h6; rw [Nat.add_zero] at h6
 match h7 : css[i], hl with
 | [a, b, c, d, e, f], _ => rw [h7] at h6; exact h6
theorem insSort_Ent {S : Blk} {w : World} {base : Nat} {v : Value} {l : List Ent} (h : Own REnt 43 S w base v l) (hbase : base ≤ w.heap.size) (hl : 0 < l.length) (hn : l.length ≤ 1000) (g : FuncId) (hen : Ent1 g) (cmp : Ent → Ent → Int) (hc : PreC cmp)
 (hcmp : ∀ (S' T' : Blk) (W : World) (x y : Ent) (cs ds : List Value), REnt.rd S' W cs x → REnt.rd T' W ds y → Calls Tryz.prog g #[.agg cs.toArray, .agg ds.toArray] W fun e w' => e = .returned (.int .i64 (cmp x y)) ∧ Below W.heap.size W w') :
 Calls Tryz.prog 137 #[v, .int .i64 0, .int .i64 l.length, .func (.func g) #[] #[]] w fun e w' => (e = .returned (.tuple #[]) ∧ ∃ m, m.Perm l ∧ Le cmp m ∧ Own REnt 43 S w' base v m ∧ Kl v v w w') ∧ Below base w w' := by
 obtain ⟨gb, c, css0, rest0, rfl, hgb, hR, hL, hlc, hcm, hsz⟩ := h.raw hl; have HR0 := hJ hR; have HL0 := hJ hL; have HI0 := hJ (InsO.start cmp l); have HS0 := hJ hsz; have HPre := hJ hc; have HCmp := hJ hcmp; clear hR hL hsz h hcmp hc
 generalize hnl : l.length = n at *
 have HN := hJ hnl; clear hnl
 go_enter func137, ntmps137
 go_wp2_with fail
 go_loopw [8] (fun iv wr => ∃ (i : Nat) (M : List Ent) (css : List (List Value)) (rest : List Value), 1 ≤ i ∧ i ≤ n ∧ iv = .int .i64 i ∧ Hid (InsO cmp l M i) ∧ Hid (Raw 6 43 wr gb css rest) ∧ Hid (Lies REnt S wr gb css M) ∧ Hid (css.length * 6 + rest.length = c * 6) ∧ Kb gb w wr) (fun iv _ => n - (intOf iv).toNat)
 case atStart => exact ⟨1, _, _, _, Nat.le_refl _, hl, rfl, HI0, HR0, HL0, HS0, Kb.refl _ _⟩
 case round =>
  obtain ⟨i, M, css, rest, hi1, hin, rfl, HI, HR, HL, HS, hB⟩ := hrel
  have HMl : Hid (M.length = n) := hJ (by rw [HI.out.perm.length_eq]; exact HN.out)
  by_cases hlt : i < n
  · have hiM : i < M.length := by rw [HMl.out]; exact hlt
    have HE := hJ (HI.out.enter hiM)
    have HAi : Hid ((M.take i).length = i) := hJ (by rw [List.length_take]; omega)
    generalize M[i] = x0 at *
    clear hiM
    go_wp2_with fail
    go_loopw [9] (fun jv wr => ∃ (j : Nat) (A : List Ent) (x : Ent) (B C M : List Ent) (css : List (List Value)) (rest : List Value), j ≤ i ∧ jv = .int .i64 j ∧ Hid (A.length = j ∧ A.length + B.length = i) ∧ Hid (InsAt cmp l M A x B C) ∧ Hid (Raw 6 43 wr gb css rest) ∧ Hid (Lies REnt S wr gb css M) ∧ Hid (css.length * 6 + rest.length = c * 6) ∧ Kb gb w wr) (fun jv _ => (intOf jv).toNat)
    case atStart => exact ⟨i, _, _, _, _, _, _, _, Nat.le_refl _, rfl, hJ ⟨HAi.out, by rw [HAi.out]; rfl⟩, HE, HR, HL, HS, hB⟩
    case round =>
     obtain ⟨j, A, x, B, C, M, css, rest, hji, rfl, HA, HE, HR, HL, HS, hB⟩ := hrel; clear HI HMl HAi
     by_cases hj : 0 < j
     · obtain ⟨A', a, rfl⟩ := last_of A (by rw [HA.out.1]; exact hj)
       obtain ⟨jp, rfl⟩ : ∃ jp, j = jp + 1 := ⟨j - 1, by omega⟩
       have HA' : Hid (A'.length = jp) := hJ (by have := HA.out.1; simp at this; exact this)
       have hgx : M[jp + 1]? = some x := by rw [HE.out.eq]; have := at_x (A' ++ [a]) x (B ++ C); rwa [HA.out.1] at this
       have hga : M[jp]? = some a := by rw [HE.out.eq]; have := at_a A' a x (B ++ C); rwa [HA'.out] at this
       obtain ⟨csx, hix, hrx⟩ := HL.out.2 _ _ hgx; obtain ⟨csa, hia, hra⟩ := HL.out.2 _ _ hga
       have HC := hJ (fun (t : Later wr) => HCmp.out _ _ t.w x a csx csa (REnt.below hrx t.b) (REnt.below hra t.b))
       obtain ⟨_, rfl, _, _, _, rfl, ⟨px, pcx, rfl, hsx⟩, ⟨tx, tcx, rfl, htx⟩, ⟨qx, qcx, rfl, hqx⟩⟩ := hrx; obtain ⟨_, rfl, _, _, _, rfl, ⟨pa, pca, rfl, hsa⟩, ⟨ta, tca, rfl, hta⟩, ⟨qa, qca, rfl, hqa⟩⟩ := hra; have x0 := HR.out.cell hix 0 _ rfl; have x1 := HR.out.cell hix 1 _ rfl; have x2 := HR.out.cell hix 2 _ rfl; have x3 := HR.out.cell hix 3 _ rfl; have x4 := HR.out.cell hix 4 _ rfl; have x5 := HR.out.cell hix 5 _ rfl; have a0 := HR.out.cell hia 0 _ rfl; have a1 := HR.out.cell hia 1 _ rfl; have a2 := HR.out.cell hia 2 _ rfl; have a3 := HR.out.cell hia 3 _ rfl; have a4 := HR.out.cell hia 4 _ rfl; have a5 := HR.out.cell hia 5 _ rfl; rw [Nat.add_zero] at x0 a0
       have HX := hJ (⟨_, rfl, _, _, _, rfl, ⟨px, pcx, rfl, hsx⟩, ⟨tx, tcx, rfl, htx⟩, ⟨qx, qcx, rfl, hqx⟩⟩ : REnt.rd (fun q => S q ∧ q ≠ gb) wr [.string x.name, .slice px x.scheme.params.length pcx, .string x.scheme.result.elem, .string x.scheme.result.shape.row, .slice tx x.scheme.result.shape.dims.length tcx, .slice qx x.scheme.wh.length qcx] x)
       have HAa := hJ (⟨_, rfl, _, _, _, rfl, ⟨pa, pca, rfl, hsa⟩, ⟨ta, tca, rfl, hta⟩, ⟨qa, qca, rfl, hqa⟩⟩ : REnt.rd (fun q => S q ∧ q ≠ gb) wr [.string a.name, .slice pa a.scheme.params.length pca, .string a.scheme.result.elem, .string a.scheme.result.shape.row, .slice ta a.scheme.result.shape.dims.length tca, .slice qa a.scheme.wh.length qca] a)
       have HIx : Hid (jp + 1 < css.length) := hJ (by
        rcases Nat.lt_or_ge (jp + 1) css.length with q | q
        · exact q
        · rw [List.getElem?_eq_none q] at hix; cases hix)
       have HMn : Hid (M.length = n) := hJ (by rw [HE.out.perm.length_eq]; exact HN.out)
       have HIX := hJ hix; have HIA := hJ hia; have hgl := HR.out.lt; clear hgx hga hix hia hsx hsa htx hta hqx hqa
       have hjn : (jp : Int) + 1 < (n : Int) := by omega
       have hjn0 : (jp : Int) < (n : Int) := by omega
       have hki : (((jp + 1 : Nat) : Int) - 1) = (jp : Int) := by omega
       have hj0 : (0 : Int) < ((jp + 1 : Nat) : Int) := by omega
       have X0 := Later.cell x0; have X1 := Later.cell x1; have X2 := Later.cell x2; have X3 := Later.cell x3; have X4 := Later.cell x4; have X5 := Later.cell x5; have A0 := Later.cell a0; have A1 := Later.cell a1; have A2 := Later.cell a2; have A3 := Later.cell a3; have A4 := Later.cell a4; have A5 := Later.cell a5; clear x0 x1 x2 x3 x4 x5 a0 a1 a2 a3 a4 a5
       have HDn := hJ (fun q : cmp x a < 0 => HE.out.down q)
       have HOut := hJ (fun q : ¬cmp x a < 0 => HE.out.out HPre.out q)
       have HEq : Hid (M = A' ++ [a] ++ x :: (B ++ C)) := hJ HE.out.eq
       generalize cmp x a = r at *
       by_cases hr : r < 0
       · have HDn2 := hJ (HDn.out hr)
         clear HDn HOut
         go_wp2_with fail
         refine kAB (by kernel_rfl) (by kernel_rfl) ?_
         repeat (go_big_quiet_step (first | fail | exact Later.call (HC.out _)))
         refine wpQuiet_nil ?_
         rintro _ ⟨t9, rfl⟩
         have HBq : Hid (Below wr.heap.size wr t9.w) := hJ t9.b
         generalize t9.w = wq at *
         clear X0 X1 X2 X3 X4 X5 A0 A1 A2 A3 A4 A5 HC; have HRq := hJ (HR.out.below HBq.out hgl); have x0 := HRq.out.cell HIX.out 0 _ rfl; have x1 := HRq.out.cell HIX.out 1 _ rfl; have x2 := HRq.out.cell HIX.out 2 _ rfl; have x3 := HRq.out.cell HIX.out 3 _ rfl; have x4 := HRq.out.cell HIX.out 4 _ rfl; have x5 := HRq.out.cell HIX.out 5 _ rfl; have a0 := HRq.out.cell HIA.out 0 _ rfl; have a1 := HRq.out.cell HIA.out 1 _ rfl; have a2 := HRq.out.cell HIA.out 2 _ rfl; have a3 := HRq.out.cell HIA.out 3 _ rfl; have a4 := HRq.out.cell HIA.out 4 _ rfl; have a5 := HRq.out.cell HIA.out 5 _ rfl; rw [Nat.add_zero] at x0 a0; have f0 := HRq.out.fz ((jp + 1) * 6); have f1 := HRq.out.fz ((jp + 1) * 6 + 1); have f2 := HRq.out.fz ((jp + 1) * 6 + 2); have f3 := HRq.out.fz ((jp + 1) * 6 + 3); have f4 := HRq.out.fz ((jp + 1) * 6 + 4); have f5 := HRq.out.fz ((jp + 1) * 6 + 5); have f6 := HRq.out.fz (jp * 6); have f7 := HRq.out.fz (jp * 6 + 1); have f8 := HRq.out.fz (jp * 6 + 2); have f9 := HRq.out.fz (jp * 6 + 3); have f10 := HRq.out.fz (jp * 6 + 4); have f11 := HRq.out.fz (jp * 6 + 5)
         go_wp2_with fail
         go_region
         all_goals go_wp2_with fail
         have HLn : Hid (Lies REnt S ((((((((((((wq.setCell ⟨gb, (jp + 1) * 6, none⟩ (.string a.name)).setCell ⟨gb, (jp + 1) * 6 + 1, none⟩ (.slice pa a.scheme.params.length pca)).setCell ⟨gb, (jp + 1) * 6 + 2, none⟩ (.string a.scheme.result.elem)).setCell ⟨gb, (jp + 1) * 6 + 3, none⟩ (.string a.scheme.result.shape.row)).setCell ⟨gb, (jp + 1) * 6 + 4, none⟩ (.slice ta a.scheme.result.shape.dims.length tca)).setCell ⟨gb, (jp + 1) * 6 + 5, none⟩ (.slice qa a.scheme.wh.length qca)).setCell ⟨gb, jp * 6, none⟩ (.string x.name)).setCell ⟨gb, jp * 6 + 1, none⟩ (.slice px x.scheme.params.length pcx)).setCell ⟨gb, jp * 6 + 2, none⟩ (.string x.scheme.result.elem)).setCell ⟨gb, jp * 6 + 3, none⟩ (.string x.scheme.result.shape.row)).setCell ⟨gb, jp * 6 + 4, none⟩ (.slice tx x.scheme.result.shape.dims.length tcx)).setCell ⟨gb, jp * 6 + 5, none⟩ (.slice qx x.scheme.wh.length qcx)) gb ((css.set (jp + 1) [.string a.name, .slice pa a.scheme.params.length pca, .string a.scheme.result.elem, .string a.scheme.result.shape.row, .slice ta a.scheme.result.shape.dims.length tca, .slice qa a.scheme.wh.length qca]).set jp [.string x.name, .slice px x.scheme.params.length pcx, .string x.scheme.result.elem, .string x.scheme.result.shape.row, .slice tx x.scheme.result.shape.dims.length tcx, .slice qx x.scheme.wh.length qcx]) (A' ++ x :: (a :: B ++ C))) := hJ (by
          have h1 := (((((((((((((HL.out.below HBq.out).self ((jp + 1) * 6) (.string a.name)).self ((jp + 1) * 6 + 1) (.slice pa a.scheme.params.length pca)).self ((jp + 1) * 6 + 2) (.string a.scheme.result.elem)).self ((jp + 1) * 6 + 3) (.string a.scheme.result.shape.row)).self ((jp + 1) * 6 + 4) (.slice ta a.scheme.result.shape.dims.length tca)).self ((jp + 1) * 6 + 5) (.slice qa a.scheme.wh.length qca)).self (jp * 6) (.string x.name)).self (jp * 6 + 1) (.slice px x.scheme.params.length pcx)).self (jp * 6 + 2) (.string x.scheme.result.elem)).self (jp * 6 + 3) (.string x.scheme.result.shape.row)).self (jp * 6 + 4) (.slice tx x.scheme.result.shape.dims.length tcx)).self (jp * 6 + 5) (.slice qx x.scheme.wh.length qcx))
          have hf : ∀ q, q ≠ gb → q < wr.heap.size → ((((((((((((wq.setCell ⟨gb, (jp + 1) * 6, none⟩ (.string a.name)).setCell ⟨gb, (jp + 1) * 6 + 1, none⟩ (.slice pa a.scheme.params.length pca)).setCell ⟨gb, (jp + 1) * 6 + 2, none⟩ (.string a.scheme.result.elem)).setCell ⟨gb, (jp + 1) * 6 + 3, none⟩ (.string a.scheme.result.shape.row)).setCell ⟨gb, (jp + 1) * 6 + 4, none⟩ (.slice ta a.scheme.result.shape.dims.length tca)).setCell ⟨gb, (jp + 1) * 6 + 5, none⟩ (.slice qa a.scheme.wh.length qca)).setCell ⟨gb, jp * 6, none⟩ (.string x.name)).setCell ⟨gb, jp * 6 + 1, none⟩ (.slice px x.scheme.params.length pcx)).setCell ⟨gb, jp * 6 + 2, none⟩ (.string x.scheme.result.elem)).setCell ⟨gb, jp * 6 + 3, none⟩ (.string x.scheme.result.shape.row)).setCell ⟨gb, jp * 6 + 4, none⟩ (.slice tx x.scheme.result.shape.dims.length tcx)).setCell ⟨gb, jp * 6 + 5, none⟩ (.slice qx x.scheme.wh.length qcx)).heap[q]? = wr.heap[q]? := fun q hne hlt => (kAA (fun e => hne e.symm)).trans ((kAA (fun e => hne e.symm)).trans ((kAA (fun e => hne e.symm)).trans ((kAA (fun e => hne e.symm)).trans ((kAA (fun e => hne e.symm)).trans ((kAA (fun e => hne e.symm)).trans ((kAA (fun e => hne e.symm)).trans ((kAA (fun e => hne e.symm)).trans ((kAA (fun e => hne e.symm)).trans ((kAA (fun e => hne e.symm)).trans ((kAA (fun e => hne e.symm)).trans ((kAA (fun e => hne e.symm)).trans (HBq.out.block q hlt))))))))))))
          have h2 := (h1.set (jp + 1) (REnt.frame HAa.out (fun q hq hlt => hf q hq.2 hlt))).set jp (REnt.frame HX.out (fun q hq hlt => hf q hq.2 hlt))
          have h3 := swap_at A' a x (B ++ C); rw [HA'.out, ← HEq.out] at h3; rw [h3] at h2
          exact h2)
         go_roundw
         case rel => exact ⟨jp, A', x, a :: B, C, _, _, rest, by omega, by go_num, hJ ⟨HA'.out, by have := HA.out.2; simp at this ⊢; omega⟩, HDn2, hJ ((HRq.out.put6 HIx.out _ _ _ _ _ _).put6 (i := jp) (by rw [List.length_set]; have := HIx.out; omega) _ _ _ _ _ _).drew, hJ HLn.out.drew, hJ (by rw [List.length_set, List.length_set]; exact HS.out), (((((((((((((hB.later HBq.out).set _ _).set _ _).set _ _).set _ _).set _ _).set _ _).set _ _).set _ _).set _ _).set _ _).set _ _).set _ _).drew⟩
         case measure => simp [intOf]
       · have HOut2 := hJ (HOut.out hr)
         clear HDn HOut
         go_wp2_with fail
         refine kAB (by kernel_rfl) (by kernel_rfl) ?_
         repeat (go_big_quiet_step (first | fail | exact Later.call (HC.out _)))
         refine wpQuiet_nil ?_
         rintro _ ⟨t9, rfl⟩
         have HBq : Hid (Below wr.heap.size wr t9.w) := hJ t9.b
         generalize t9.w = wq at *
         clear X0 X1 X2 X3 X4 X5 A0 A1 A2 A3 A4 A5 HC
         go_wp2_with fail
         go_roundw
         case rel => exact ⟨i + 1, _, _, _, by omega, by omega, by go_num, hJ (by have h1 := HOut2.out; have h2 := HA.out.2; simp at h2; rwa [show A'.length + 1 + B.length + 1 = i + 1 by omega] at h1), hJ (HR.out.below HBq.out hgl), hJ (HL.out.below HBq.out), HS, hB.later HBq.out⟩
         case measure => simp [intOf]; omega
     · obtain rfl : j = 0 := by omega
       obtain rfl : A = [] := List.eq_nil_of_length_eq_zero HA.out.1; have HOut := hJ HE.out.out0
       have hg : ¬(0 : Int) < ((0 : Nat) : Int) := by omega
       clear hj
       go_wp2_with fail
       refine kAB (by kernel_rfl) (by kernel_rfl) ?_
       repeat (go_big_quiet_step (fail))
       refine wpQuiet_nil ?_
       rintro _ ⟨t9, rfl⟩
       have HBq : Hid (Below wr.heap.size wr t9.w) := hJ t9.b
       have hgl := HR.out.lt
       generalize t9.w = wq at *
       go_wp2_with fail
       go_roundw
       case rel => exact ⟨i + 1, _, _, _, by omega, by omega, by go_num, hJ (by have h1 := HOut.out; have h2 := HA.out.2; simp at h2; rwa [h2] at h1), hJ (HR.out.below HBq.out hgl), hJ (HL.out.below HBq.out), HS, hB.later HBq.out⟩
       case measure => simp [intOf]; omega
  · have HD := hJ (HI.out.done (by rw [HMl.out]; omega))
    go_wp2_with fail
    go_end0
    have hO := HR.out.own HL.out hgb (by rw [HMl.out]; exact hlc) hcm HS.out
    rw [HMl.out] at hO
    exact ⟨⟨rfl, M, HD.out.1, HD.out.2, hO, hB.kl _ _ _ _⟩, hB.below hgb hbase⟩
theorem kDM {s : Str} (h : kBB s = true) : s.size ≤ 30 := by
 rcases Nat.lt_or_ge 30 s.size with q | q
 · rw [name_long s (.inr q)] at h; cases h
 · exact q
theorem elemVar_sz {s : Str} (h : kAV s = true) : s.size ≤ 30 := by
 unfold kAV at h
 rw [Bool.and_eq_true] at h
 exact (of_decide_eq_true h.1).2
theorem list_sz (s : Str) : s.toList.length = s.size := by rw [ByteArray.toList_eq]; rfl
theorem elem_sz {s : Str} (h : kEG s = true) : s.size ≤ 30 := by
 unfold kEG at h
 rw [Bool.or_eq_true, Bool.or_eq_true] at h
 rcases h with h | h | h
 · have := list_sz s
   rw [beq_iff_eq] at h; rw [h] at this
   have e : intC.length = 3 := rfl
   omega
 · have := list_sz s
   rw [beq_iff_eq] at h; rw [h] at this
   have e : boolC.length = 4 := rfl
   omega
 · exact elemVar_sz h
theorem empty_sz {s : Str} (h : s.toList.isEmpty = true) : s.size = 0 := by
 have := list_sz s
 rw [List.isEmpty_iff] at h; rw [h] at this
 exact this.symm
theorem row_sz {s : Str} (h : rowB s = true) : s.size ≤ 30 := by
 unfold rowB at h
 rw [Bool.or_eq_true] at h
 rcases h with h | h
 · have := empty_sz h; omega
 · exact kDM h
theorem kGS {x : Lin} (h : kAD x = true) : szL x := fun t ht => Nat.le_trans (kDM ((kBF h).2.2.2.1 t ht)) (by decide)
theorem kFA {s : Shp} (h : kAL s = true) : rowB s.row = true ∧ s.dims.length ≤ 6 ∧ ∀ x ∈ s.dims, kAD x = true := by
 have h2 := kBW h
 unfold kAL at h
 rw [Bool.and_eq_true] at h
 exact ⟨h.1, h2.1, h2.2⟩
theorem shp_sz {s : Shp} (h : kAL s = true) : szH s := by
 obtain ⟨h1, _, h3⟩ := kFA h
 exact ⟨Nat.le_trans (row_sz h1) (by decide), fun x hx => kGS (h3 x hx)⟩
theorem typ_sz {t : Typ} (h : kAK t = true) : szT t := by
 unfold kAK at h
 rw [Bool.and_eq_true] at h
 exact ⟨Nat.le_trans (elem_sz h.1) (by decide), shp_sz h.2⟩
theorem sch_sz {s : Sch} (h : kAJ s = true) : szS s := by
 obtain ⟨_, _, h3, h4, h5⟩ := kAT h
 exact ⟨fun t ht => typ_sz (h3 t ht), typ_sz h4, fun x hx => kGS (h5 x hx)⟩
theorem bnd_cases {b : Bnd} (h : kCM b = true) :
 (b.kind = 1 ∧ kBB b.v = true ∧ kAD b.dim = true ∧ b.row.row.toList.isEmpty = true ∧ b.row.dims.length = 0 ∧ b.elem.toList.isEmpty = true) ∨
 (b.kind = 2 ∧ kBB b.v = true ∧ kAL b.row = true ∧ b.dim.const = 0 ∧ b.dim.terms.length = 0 ∧ b.elem.toList.isEmpty = true) ∨
 (b.kind = 3 ∧ kAV b.v = true ∧ kEG b.elem = true ∧ b.dim.const = 0 ∧ b.dim.terms.length = 0 ∧ b.row.row.toList.isEmpty = true ∧ b.row.dims.length = 0) := by
 unfold kCM at h
 by_cases h1 : b.kind = 1
 · rw [if_pos h1] at h
   unfold kDW at h
   simp only [Bool.and_eq_true, beq_iff_eq] at h
   obtain ⟨q1, q2, ⟨q3, q4⟩, q5⟩ := h
   exact .inl ⟨h1, q1, q2, q3, q4, q5⟩
 · rw [if_neg h1] at h
   by_cases h2 : b.kind = 2
   · rw [if_pos h2] at h
     unfold zeroL at h
     simp only [Bool.and_eq_true, beq_iff_eq] at h
     obtain ⟨q1, q2, ⟨q3, q4⟩, q5⟩ := h
     exact .inr (.inl ⟨h2, q1, q2, q3, q4, q5⟩)
   · rw [if_neg h2] at h
     by_cases h3 : b.kind = 3
     · rw [if_pos h3] at h
       unfold zeroL kDW at h
       simp only [Bool.and_eq_true, beq_iff_eq] at h
       obtain ⟨q1, q2, ⟨q3, q4⟩, q5, q6⟩ := h
       exact .inr (.inr ⟨h3, q1, q2, q3, q4, q5, q6⟩)
     · rw [if_neg h3] at h; cases h
theorem shape_bound {S : Blk} {x : Bnd} {cs : List Value} {w : World} (h : RBnd.rd S w cs x) (hv : kCM x = true) (E : Env w) :
 Calls Tryz.prog 144 #[.agg cs.toArray] w fun e w' => e = .returned (.bool true) ∧ Below w.heap.size w w' := by
 obtain ⟨t, d, rfl, ⟨a, c, rfl, ht⟩, ⟨a2, c2, rfl, hd⟩⟩ := h; have hcs := bnd_cases hv
 have HL : Hid (kAD x.dim = true → ∀ W, Below w.heap.size w W → Calls Tryz.prog 80 #[.agg #[.int .i64 x.dim.const, .slice a x.dim.terms.length c]] W fun e w' => e = .returned (.bool true) ∧ Below W.heap.size W w') :=
  hJ (fun q W hW => q ▸ kDA (S := S) x.dim a _ c W (ht.below hW) (kGS q) (E.below hW))
 have HH : Hid (kAL x.row = true → ∀ W, Below w.heap.size w W → Calls Tryz.prog 128 #[.agg #[.string x.row.row, .slice a2 x.row.dims.length c2]] W fun e w' => e = .returned (.bool true) ∧ Below W.heap.size W w') :=
  hJ (fun q W hW => q ▸ kDJ (S := S) (s := x.row) (cs := [.string x.row.row, .slice a2 x.row.dims.length c2]) ⟨_, rfl, a2, c2, rfl, hd.below hW⟩ (shp_sz q) (E.below hW))
 have hm1 := ht.small; have hm2 := hd.small; clear ht hd hv; obtain ⟨kind, v, dim, row, elem⟩ := x
 simp only at *
 generalize dim.terms.length = n at *
 generalize row.dims.length = m at *
 generalize dim.const = dc at *
 obtain ⟨B0, ya, hW0⟩ := box1 w 103 [.int .i64 kind, .string v, .int .i64 dc, .slice a n c, .string row.row, .slice a2 m c2, .string elem]; have xa0 := box0 ya 0 _ rfl; have xa1 := box0 ya 1 _ rfl; have xa2 := box0 ya 2 _ rfl; have xa3 := box0 ya 3 _ rfl; have xa4 := box0 ya 4 _ rfl; have xa5 := box0 ya 5 _ rfl; have xa6 := box0 ya 6 _ rfl; clear ya; have E0 := hJ (E.below B0.out)
 rcases hcs with ⟨rfl, h1, h2, h3, rfl, h5⟩ | ⟨rfl, h1, h2, rfl, rfl, h5⟩ | ⟨rfl, h1, h2, rfl, rfl, h5, rfl⟩
 · have hsz : v.size ≤ 281474976710656 := Nat.le_trans (kDM h1) (by decide)
   have HC := hJ (h1 ▸ kBS v hsz _ E0.out); have HL := hJ (HL.out h2); clear h1 h2 HH
   cases g1 : (dc == 0)
   all_goals cases g2 : ((n : Int) == 0)
   all_goals
    go_enter func144, ntmps144
    go_wp2_with fail
    refine (HC.out).mono ?_
    rintro e w1 ⟨rfl, hb⟩
    have y2 := kAC xa2 _ hb; have y3 := kAC xa3 _ hb; have y6 := kAC xa6 _ hb; have hW := B0.out.trans (hb.mono B0.out.size); clear xa0 xa1 xa2 xa3 xa4 xa5 xa6
    go_wp2_with fail
    refine (HL.out _ hW).mono ?_
    rintro e w2 ⟨rfl, hb2⟩
    have z6 := kAC y6 _ hb2
    go_wp2_with fail
    go_ret
    exact ⟨rfl, hW.trans (hb2.mono hW.size)⟩
 · have hsz : v.size ≤ 281474976710656 := Nat.le_trans (kDM h1) (by decide)
   have HC := hJ (h1 ▸ kBS v hsz _ E0.out); have HH := hJ (HH.out h2); clear h1 h2 HL
   cases g1 : row.row.toList.isEmpty
   all_goals cases g2 : ((m : Int) == 0)
   all_goals
    go_enter func144, ntmps144
    go_wp2_with fail
    refine (HC.out).mono ?_
    rintro e w1 ⟨rfl, hb⟩
    have y4 := kAC xa4 _ hb; have y5 := kAC xa5 _ hb; have y6 := kAC xa6 _ hb; have hW := B0.out.trans (hb.mono B0.out.size); clear xa0 xa1 xa2 xa3 xa4 xa5 xa6
    go_wp2_with fail
    refine (HH.out _ hW).mono ?_
    rintro e w2 ⟨rfl, hb2⟩
    have z6 := kAC y6 _ hb2
    go_wp2_with fail
    go_ret
    exact ⟨rfl, hW.trans (hb2.mono hW.size)⟩
 · have hsz : v.size ≤ 281474976710656 := Nat.le_trans (elemVar_sz h1) (by decide)
   have hsz2 : elem.size ≤ 281474976710656 := Nat.le_trans (elem_sz h2) (by decide)
   have HC := hJ (h1 ▸ kCP v hsz (w.alloc (.cells #[.int .i64 3, .string v, .int .i64 0, .slice a 0 c, .string row.row, .slice a2 0 c2, .string elem] 103)))
   have h2 : ((elem.toList == [105, 110, 116]) || ((elem.toList == [98, 111, 111, 108]) || kAV elem)) = true := h2
   clear h1 HL HH
   by_cases q1 : (elem.toList == [105, 110, 116]) = true
   · clear h2
     go_enter func144, ntmps144
     go_wp2_with fail
     refine (HC.out).mono ?_
     rintro e w1 ⟨rfl, hb⟩
     have y6 := kAC xa6 _ hb; have hW := B0.out.trans (hb.mono B0.out.size); clear xa0 xa1 xa2 xa3 xa4 xa5 xa6
     go_wp2_with fail
     go_ret
     exact ⟨rfl, hW⟩
   have q1 : (elem.toList == [105, 110, 116]) = false := by simpa using q1
   by_cases q2 : (elem.toList == [98, 111, 111, 108]) = true
   · clear h2
     go_enter func144, ntmps144
     go_wp2_with fail
     refine (HC.out).mono ?_
     rintro e w1 ⟨rfl, hb⟩
     have y6 := kAC xa6 _ hb; have hW := B0.out.trans (hb.mono B0.out.size); clear xa0 xa1 xa2 xa3 xa4 xa5 xa6
     go_wp2_with fail
     go_ret
     exact ⟨rfl, hW⟩
   have q2 : (elem.toList == [98, 111, 111, 108]) = false := by simpa using q2
   have q3 : kAV elem = true := by rw [q1, q2] at h2; exact h2
   have HC2 := hJ (fun w => q3 ▸ kCP elem hsz2 w)
   clear h2 q3
   go_enter func144, ntmps144
   go_wp2_with fail
   refine (HC.out).mono ?_
   rintro e w1 ⟨rfl, hb⟩
   have y6 := kAC xa6 _ hb; have hW := B0.out.trans (hb.mono B0.out.size); clear xa0 xa1 xa2 xa3 xa4 xa5 xa6
   go_wp2_with fail
   refine (HC2.out _).mono ?_
   rintro e w2 ⟨rfl, hb2⟩
   go_wp2_with fail
   go_ret
   exact ⟨rfl, hW.trans (hb2.mono hW.size)⟩
theorem ref11_validBind {S : Blk} {x : Bnd} {cs : List Value} {w : World} (h : RBnd.rd S w cs x) (hv : kCM x = true) :
 Calls Tryz.prog 118 #[.agg cs.toArray] w fun e w' => e = .returned (.bool true) ∧ Below w.heap.size w w' := by
 obtain ⟨t, d, rfl, ⟨a, c, rfl, ht⟩, ⟨a2, c2, rfl, hd⟩⟩ := h; have hcs := bnd_cases hv
 have HL : Hid (kAD x.dim = true → ∀ W, Below w.heap.size w W → Calls Tryz.prog 67 #[.agg #[.int .i64 x.dim.const, .slice a x.dim.terms.length c]] W fun e w' => e = .returned (.bool true) ∧ Below W.heap.size W w') :=
  hJ (fun q W hW => q ▸ ref04_Valid (S := S) x.dim a _ c W (ht.below hW) (kGS q))
 have HH : Hid (kAL x.row = true → ∀ W, Below w.heap.size w W → Calls Tryz.prog 115 #[.agg #[.string x.row.row, .slice a2 x.row.dims.length c2]] W fun e w' => e = .returned (.bool true) ∧ Below W.heap.size W w') :=
  hJ (fun q W hW => q ▸ kEP (S := S) (s := x.row) (cs := [.string x.row.row, .slice a2 x.row.dims.length c2]) ⟨_, rfl, a2, c2, rfl, hd.below hW⟩ (shp_sz q))
 have HZ : Hid (x.dim.const = 0 → x.dim.terms.length = 0 → ∀ W, Below w.heap.size w W → Calls Tryz.prog 164 #[.agg #[.int .i64 x.dim.const, .slice a x.dim.terms.length c]] W fun e w' => e = .returned (.bool true) ∧ Below W.heap.size W w') :=
  hJ (fun q1 q2 W hW => by
   have := ref11_zero (x := x.dim) (S := S) (w := W) (cs := [.int .i64 x.dim.const, .slice a x.dim.terms.length c]) ⟨_, rfl, a, c, rfl, ht.below hW⟩
   have e : zeroL x.dim = true := by unfold zeroL; rw [q1, q2]; rfl
   rwa [e] at this)
 have hm1 := ht.small; have hm2 := hd.small; clear ht hd hv; obtain ⟨kind, v, dim, row, elem⟩ := x
 simp only at *
 generalize dim.terms.length = n at *
 generalize row.dims.length = m at *
 generalize dim.const = dc at *
 obtain ⟨B0, ya, hW0⟩ := box1 w 103 [.int .i64 kind, .string v, .int .i64 dc, .slice a n c, .string row.row, .slice a2 m c2, .string elem]; have xa0 := box0 ya 0 _ rfl; have xa1 := box0 ya 1 _ rfl; have xa2 := box0 ya 2 _ rfl; have xa3 := box0 ya 3 _ rfl; have xa4 := box0 ya 4 _ rfl; have xa5 := box0 ya 5 _ rfl; have xa6 := box0 ya 6 _ rfl; clear ya
 rcases hcs with ⟨rfl, h1, h2, h3, rfl, h5⟩ | ⟨rfl, h1, h2, rfl, rfl, h5⟩ | ⟨rfl, h1, h2, rfl, rfl, h5, rfl⟩
 · have hsz : v.size ≤ 281474976710656 := Nat.le_trans (kDM h1) (by decide)
   have HC := hJ (fun w => h1 ▸ kCD v w hsz)
   have HL := hJ (HL.out h2 _ B0.out); clear h1 h2 HH HZ
   go_enter func118, ntmps118
   go_wp2_with fail
   refine (HC.out _).mono ?_
   rintro e _ ⟨rfl, rfl⟩
   go_wp2_with fail
   refine (HL.out).mono ?_
   rintro e w2 ⟨rfl, hb2⟩
   have z6 := kAC xa6 _ hb2
   go_wp2_with fail
   go_ret
   exact ⟨rfl, B0.out.trans (hb2.mono B0.out.size)⟩
 · have hsz : v.size ≤ 281474976710656 := Nat.le_trans (kDM h1) (by decide)
   have HC := hJ (fun w => h1 ▸ kCD v w hsz)
   have HH := hJ (HH.out h2 _ B0.out); have HZ2 := hJ (HZ.out rfl rfl); clear h1 h2 HL HZ
   cases h6 : row.row.toList.isEmpty
   all_goals cases h7 : decide (0 < (m : Int))
   all_goals
    go_enter func118, ntmps118
    go_wp2_with fail
    refine (HC.out _).mono ?_
    rintro e _ ⟨rfl, rfl⟩
    go_wp2_with fail
    refine (HH.out).mono ?_
    rintro e w2 ⟨rfl, hb2⟩
    have y2 := kAC xa2 _ hb2; have y3 := kAC xa3 _ hb2; have y6 := kAC xa6 _ hb2; have hW := B0.out.trans (hb2.mono B0.out.size); clear xa0 xa1 xa2 xa3 xa4 xa5 xa6
    go_wp2_with fail
    refine (HZ2.out _ hW).mono ?_
    rintro e w3 ⟨rfl, hb3⟩
    have z6 := kAC y6 _ hb3
    go_wp2_with fail
    go_ret
    exact ⟨rfl, hW.trans (hb3.mono hW.size)⟩
 · have hsz : v.size ≤ 281474976710656 := Nat.le_trans (elemVar_sz h1) (by decide)
   have hsz2 : elem.size ≤ 281474976710656 := Nat.le_trans (elem_sz h2) (by decide)
   have HC := hJ (fun w => h1 ▸ kDF v hsz w)
   have HC2 := hJ (fun w => h2 ▸ ref11_Elem elem hsz2 w)
   have HZ2 := hJ (HZ.out rfl rfl _ B0.out); clear h1 h2 HL HH HZ
   go_enter func118, ntmps118
   go_wp2_with fail
   refine (HC.out _).mono ?_
   rintro e _ ⟨rfl, rfl⟩
   go_wp2_with fail
   refine (HC2.out _).mono ?_
   rintro e _ ⟨rfl, rfl⟩
   go_wp2_with fail
   refine (HZ2.out).mono ?_
   rintro e w3 ⟨rfl, hb3⟩
   go_wp2_with fail
   go_ret
   exact ⟨rfl, B0.out.trans (hb3.mono B0.out.size)⟩
def GoodV (x : Bnd) : Prop := x = bare x.kind x.v ∧ ((x.kind = 1 ∧ kBB x.v = true) ∨ (x.kind = 2 ∧ kBB x.v = true) ∨ (x.kind = 3 ∧ kAV x.v = true))
structure InvV (l : List Bnd) : Prop where
 good : ∀ x ∈ l, GoodV x
 one : ∀ i, i < l.length → (l.take i).any (isB (l.getD i default).kind (l.getD i default).v) = false
theorem kFE {l : List Bnd} {k : Int} {v : Str} : kBA l k v < 0 ↔ l.any (isB k v) = false := by
 unfold kBA idx
 constructor
 · intro h
   cases ha : l.any (isB k v) with
   | true => rw [ha, if_pos rfl] at h; omega
   | false => rfl
 · intro h; rw [h, if_neg (by decide)]; decide
theorem InvV.nil : InvV [] := ⟨fun x hx => by simp at hx, fun i hi => by simp at hi⟩
theorem InvV.add {l : List Bnd} (h : InvV l) {k : Int} {v : Str} (hg : GoodV (bare k v)) : InvV (addV l k v) := by
 unfold addV
 split
 · exact h
 · next q =>
   have hn := kFE.1 (show kBA l k v < 0 by omega)
   refine ⟨fun x hx => ?_, fun i hi => ?_⟩
   · rcases List.mem_append.1 hx with r | r
     · exact h.good x r
     · rw [List.mem_singleton.1 r]; exact hg
   · rw [List.length_append] at hi
     rcases Nat.lt_or_ge i l.length with r | r
     · have e : (l ++ [bare k v]).getD i default = l.getD i default := by
        rw [List.getD_eq_getElem?_getD, List.getD_eq_getElem?_getD, List.getElem?_append_left r]
       rw [e, List.take_append_of_le_length (Nat.le_of_lt r)]
       exact h.one i r
     · have hi2 : i = l.length := by simp at hi; omega
       subst hi2
       have e : (l ++ [bare k v]).getD l.length default = bare k v := by
        rw [List.getD_eq_getElem?_getD, List.getElem?_append_right (Nat.le_refl _)]; simp
       rw [e, List.take_left]
       exact hn
theorem InvV.addAll {l : List Bnd} (h : InvV l) (ns : List Str) (hn : ∀ n ∈ ns, kBB n = true) : InvV (addAll l ns) := by
 induction ns generalizing l with
 | nil => exact h
 | cons n ns ih => exact ih (h.add ⟨rfl, .inl ⟨rfl, hn n (List.mem_cons_self ..)⟩⟩) (fun m hm => hn m (List.mem_cons_of_mem _ hm))
theorem InvV.addBs {l : List Bnd} (h : InvV l) (vs : List Bnd) (hn : ∀ x ∈ vs, GoodV x) : InvV (addBs l vs) := by
 induction vs generalizing l with
 | nil => exact h
 | cons x vs ih =>
   refine ih (h.add ?_) (fun m hm => hn m (List.mem_cons_of_mem _ hm))
   have := hn x (List.mem_cons_self ..)
   rw [← this.1]
   exact this
theorem lin_names {x : Lin} (h : kAD x = true) : ∀ n ∈ kAN x, kBB n = true := by
 intro n hn
 obtain ⟨t, ht, rfl⟩ := List.mem_map.1 hn
 exact (kBF h).2.2.2.1 t ht
theorem lins_names {l : List Lin} (h : ∀ x ∈ l, kAD x = true) : ∀ n ∈ l.flatMap kAN, kBB n = true := by
 intro n hn
 obtain ⟨x, hx, q⟩ := List.mem_flatMap.1 hn
 exact lin_names (h x hx) n q
theorem varsV_inv {s : Shp} (h : kAL s = true) : InvV (kCV s) := by
 unfold kCV
 rw [if_pos h]
 unfold varsS
 obtain ⟨h1, _, h3⟩ := kFA h
 refine InvV.addAll ?_ _ (lins_names h3)
 unfold rowV
 split
 · exact InvV.nil
 · next q =>
   unfold rowB at h1
   rw [Bool.or_eq_true] at h1
   rcases h1 with r | r
   · exact absurd r q
   · exact InvV.nil.add ⟨rfl, .inr (.inl ⟨rfl, r⟩)⟩
theorem varsTy_inv {t : Typ} (h : kAK t = true) : InvV (kBQ t) := by
 unfold kBQ
 rw [if_pos h]
 unfold kAK at h
 rw [Bool.and_eq_true] at h
 split
 · next q => exact (varsV_inv h.2).add ⟨rfl, .inr (.inr ⟨rfl, q⟩)⟩
 · exact varsV_inv h.2
def kBE (l : List Typ) : List Bnd := l.foldl (fun o t => addBs o (kBQ t)) []
theorem varsAll_inv {l : List Typ} (h : ∀ t ∈ l, kAK t = true) : InvV (kBE l) := by
 unfold kBE
 suffices H : ∀ (l : List Typ) (o : List Bnd), (∀ t ∈ l, kAK t = true) → InvV o → InvV (l.foldl (fun o t => addBs o (kBQ t)) o) from H l [] h InvV.nil
 intro l
 induction l with
 | nil => exact fun o _ h => h
 | cons t l ih => exact fun o ht h => ih _ (fun u hu => ht u (List.mem_cons_of_mem _ hu)) (h.addBs _ (varsTy_inv (ht t (List.mem_cons_self ..))).good)
theorem kEI {s : Sch} (h : kAJ s = true) : ∀ t ∈ allT s, kAK t = true := by
 obtain ⟨_, _, h3, h4, _⟩ := kAT h
 intro t ht
 unfold allT at ht
 rcases List.mem_append.1 ht with q | q
 · exact h3 t q
 · rw [List.mem_singleton.1 q]; exact h4
theorem kCX {s : Sch} (h : kAJ s = true) : InvV (kA1 s) := by
 unfold kA1
 rw [if_pos h]
 exact (varsAll_inv (kEI h)).addAll _ (lins_names (kAT h).2.2.2.2)
theorem addBs_len (vs : List Bnd) : ∀ l : List Bnd, (addBs l vs).length ≤ l.length + vs.length := by
 induction vs with
 | nil => intro l; exact Nat.le_refl _
 | cons x vs ih =>
   intro l
   have h1 := ih (addV l x.kind x.v); have h2 := addV_len l x.kind x.v
   show (addBs (addV l x.kind x.v) vs).length ≤ _
   rw [List.length_cons]; omega
theorem varsTy_len (t : Typ) : (kBQ t).length ≤ 101 := by
 unfold kBQ
 have h1 := varsV_len t.shape
 split
 · split
   · have h2 := addV_len (kCV t.shape) 3 t.elem; omega
   · omega
 · exact Nat.zero_le _
theorem kDI (l : List Typ) : (kBE l).length ≤ l.length * 101 := by
 unfold kBE
 suffices H : ∀ (l : List Typ) (o : List Bnd), (l.foldl (fun o t => addBs o (kBQ t)) o).length ≤ o.length + l.length * 101 by
  have := H l []; simpa using this
 intro l
 induction l with
 | nil => intro o; simp
 | cons t l ih =>
   intro o
   have h1 := ih (addBs o (kBQ t)); have h2 := addBs_len (kBQ t) o; have h3 := varsTy_len t; rw [List.foldl_cons, List.length_cons]
   omega
theorem kEJ {s : Sch} : (kA1 s).length ≤ 3000 := by
 unfold kA1
 split
 · next h =>
   obtain ⟨h1, h2, _, _, h5⟩ := kAT h
   have q1 := kBO (s.wh.flatMap kAN) ((allT s).foldl (fun o t => addBs o (kBQ t)) [])
   have q2 := kDI (allT s); have q3 := kDU s.wh h5
   have q4 : (allT s).length ≤ 13 := by unfold allT; rw [List.length_append]; simp; omega
   unfold kBE at q2
   omega
 · exact Nat.zero_le _
theorem kEV : ∀ (k n : Nat), n < 10 ^ (k + 1) → (Lib.decDigits n).length ≤ k + 1
 | 0, n, h => by unfold Lib.decDigits; rw [dif_pos (by simpa using h)]; simp
 | k + 1, n, h => by
   unfold Lib.decDigits
   split
   · simp
   · rw [List.length_append]
     have := kEV k (n / 10) (by rw [Nat.div_lt_iff_lt_mul (by decide)]; rw [Nat.pow_succ] at h; exact h)
     simp; omega
theorem nm_list (c : UInt8) (n : Nat) : (nm c n).data.toList = c :: Lib.decDigits n := by
 unfold nm
 rw [ByteArray.data_append]
 simp
theorem nm_size (c : UInt8) (n : Nat) (h : n ≤ 3000) : 1 ≤ (nm c n).size ∧ (nm c n).size ≤ 5 := by
 have h1 := kEV 3 n (by omega)
 have h2 : (nm c n).size = (nm c n).data.toList.length := rfl
 rw [h2, nm_list, List.length_cons]
 omega
theorem nm_zero (c : UInt8) (n : Nat) : bt (nm c n) 0 = (c.toNat : Int) := by
 apply bt_at
 rw [nm_list]; rfl
theorem nm_digit (c : UInt8) (n i : Nat) (h0 : 0 < i) (h : i < (nm c n).size) : kA3 (bt (nm c n) i) = true := by
 obtain ⟨d, hd, e⟩ := at_bt (nm c n) i h; rw [e]; rw [nm_list] at hd
 obtain ⟨j, rfl⟩ : ∃ j, i = j + 1 := ⟨i - 1, by omega⟩
 rw [List.getElem?_cons_succ] at hd
 have := dec_digit n d (List.mem_iff_getElem?.2 ⟨j, hd⟩)
 unfold kA3
 exact decide_eq_true (by omega)
theorem nm_name (c : UInt8) (hc : 97 ≤ c.toNat ∧ c.toNat ≤ 122) (n : Nat) (h : n ≤ 3000) : kBB (nm c n) = true := by
 have h0 := nm_zero c n; have h1 := nm_size c n h
 rw [kFO _ (by rw [h0]; omega), Bool.and_eq_true]
 refine ⟨decide_eq_true ⟨h1.1, by omega⟩, kCH fun i hi => ?_⟩
 rcases Nat.eq_zero_or_pos i with q | q
 · subst q
   rw [h0]
   unfold kA6
   rw [decide_eq_true (by omega)]; rfl
 · rw [nm_digit c n i q hi]
   have : (i != 0) = true := bne_iff_ne.2 (by omega)
   rw [this]; simp
theorem nm_elem (n : Nat) (h : n ≤ 3000) : kAV (nm 65 n) = true := by
 have h0 := nm_zero 65 n; have h1 := nm_size 65 n h
 unfold kAV
 rw [Bool.and_eq_true, Bool.and_eq_true]
 refine ⟨decide_eq_true ⟨h1.1, by omega⟩, decide_eq_true (by rw [h0]; decide), kCH fun i hi => ?_⟩
 rcases Nat.eq_zero_or_pos i with q | q
 · subst q; rfl
 · rw [nm_digit 65 n i q hi]; simp
theorem cnt_le (k : Int) (l : List Bnd) : cntK k l ≤ l.length := List.countP_le_length
theorem kGO (n : Nat) (b : Bnd) : (renB n b).kind = b.kind ∧ (renB n b).v = b.v := by
 unfold renB
 split
 · exact ⟨rfl, rfl⟩
 · split <;> exact ⟨rfl, rfl⟩
theorem kFB (l : List Bnd) : (ren l).length = l.length := by unfold ren; rw [List.length_map, List.length_range]
theorem ren_at {l : List Bnd} {i : Nat} (h : i < l.length) : (ren l).getD i default = kE0 l i := by
 unfold ren
 rw [List.getD_eq_getElem?_getD, List.getElem?_map, List.getElem?_range h]; rfl
theorem renB_valid {n : Nat} (hn : n ≤ 3000) {b : Bnd} (h : GoodV b) : kCM (renB n b) = true := by
 obtain ⟨e, h⟩ := h
 generalize b.kind = k at *
 generalize b.v = v at *
 subst e
 have e0 : (⟨#[]⟩ : Str).toList.isEmpty = true := by rw [ByteArray.toList_eq]; rfl
 have e1 : kDW ⟨⟨#[]⟩, []⟩ = true := by unfold kDW; rw [e0]; rfl
 rcases h with ⟨rfl, h⟩ | ⟨rfl, h⟩ | ⟨rfl, h⟩
 · show (kBB v && (kAD (varL (nm 110 n)) && (kDW ⟨⟨#[]⟩, []⟩ && (⟨#[]⟩ : Str).toList.isEmpty))) = true
   rw [h, varL_valid (nm_name 110 (by decide) n hn), e0, e1]
   rfl
 · show (kBB v && (kAL ⟨nm 114 n, []⟩ && (zeroL ⟨0, []⟩ && (⟨#[]⟩ : Str).toList.isEmpty))) = true
   have : kAL ⟨nm 114 n, []⟩ = true := by
    unfold kAL rowB
    simp [nm_name 114 (by decide) n hn]
   rw [h, this, e0]
   rfl
 · show (kAV v && (kEG (nm 65 n) && (zeroL ⟨0, []⟩ && kDW ⟨⟨#[]⟩, []⟩))) = true
   have : kEG (nm 65 n) = true := by unfold kEG; rw [nm_elem n hn]; simp
   rw [h, this, e1]
   rfl
theorem ren_valid {l : List Bnd} (h : InvV l) (hl : l.length ≤ 3000) : kBG (ren l) = true := by
 unfold kBG
 rw [List.all_eq_true]
 intro i hi
 have hi := List.mem_range.1 hi; rw [kFB] at hi
 unfold bndOk
 rw [ren_at hi, Bool.and_eq_true]; have hg := h.good _ (kAI hi)
 refine ⟨renB_valid (Nat.le_trans (cnt_le _ _) (by rw [List.length_take]; omega)) hg, decide_eq_true (kFE.2 ?_)⟩
 have hk := kGO (cntK (l.getD i default).kind (l.take (i + 1))) (l.getD i default)
 unfold kE0
 rw [hk.1, hk.2, List.any_eq_false]
 intro x hx
 have h1 := List.any_eq_false.1 (h.one i hi); obtain ⟨j, hj, e⟩ := List.getElem_of_mem hx; rw [List.length_take, kFB] at hj
 have hjl : j < l.length := by omega
 have e2 : x = kE0 l j := by
  rw [← e, List.getElem_take, ← ren_at hjl, List.getD_eq_getElem?_getD, List.getElem?_eq_getElem (by rw [kFB]; exact hjl)]; rfl
 have hkj := kGO (cntK (l.getD j default).kind (l.take (j + 1))) (l.getD j default)
 have h2 := h1 (l.getD j default) (by
  rw [List.mem_iff_getElem?]
  exact ⟨j, by rw [List.getElem?_take, if_pos (by omega)]; exact kCY hjl⟩)
 rw [e2]
 unfold kE0 isB
 rw [hkj.1, hkj.2]
 exact h2
theorem kGG {s : Sch} (h : kAJ s = true) : kBG (ren (kA1 s)) = true := ren_valid (kCX h) kEJ
def Named (l : List Coef) : Prop := ∀ t ∈ l, kBB t.v = true
theorem plus_names {l : List Coef} (hs : Srt l) (h : Named l) {s : Str} (hn : kBB s = true) (c : Int) : Named (plus l s c) := fun t ht => by
 unfold plus at ht
 rw [kEB hs] at ht
 rcases ins_mem s c l t (List.mem_filter.1 ht).1 with q | q
 · rw [q]; exact hn
 · exact h t q
theorem times_names (x : List Coef) (k : Int) (hx : Named x) : ∀ l : List Coef, Srt l → Named l → Named (kBK l x k) := by
 induction x with
 | nil => exact fun l _ h => h
 | cons t x ih => exact fun l hs h => ih (fun u hu => hx u (List.mem_cons_of_mem _ hu)) _ (kGQ hs _ _) (plus_names hs h (hx t (List.mem_cons_self ..)) _)
theorem subRun_names {b : List Bnd} (hg : GoodB b) (c : Int) (ts : List Coef) (ht : Named ts) : Srt (kDE b c ts).terms ∧ Named (kDE b c ts).terms := by
 suffices H : ∀ (ts : List Coef) (acc : Lin), Named ts → Srt acc.terms → Named acc.terms → Srt (ts.foldl (fun acc t => kB8 acc (sub1 b t.v) t.c) acc).terms ∧ Named (ts.foldl (fun acc t => kB8 acc (sub1 b t.v) t.c) acc).terms from H ts ⟨c, []⟩ ht List.Pairwise.nil (fun t ht => by simp at ht)
 intro ts
 induction ts with
 | nil => exact fun acc _ h1 h2 => ⟨h1, h2⟩
 | cons t ts ih =>
   intro acc ht h1 h2
   exact ih _ (fun u hu => ht u (List.mem_cons_of_mem _ hu)) (times_srt _ _ _ h1) (times_names _ _ (kBF (kFK hg (ht t (List.mem_cons_self ..)))).2.2.2.1 _ h1 h2)
theorem subRaw_sz {b : List Bnd} (hg : GoodB b) {x : Lin} (h : kAD x = true) : szL (kAF b x) := fun t ht => Nat.le_trans (kDM ((subRun_names hg x.const x.terms (kBF h).2.2.2.1).2 t ht)) (by decide)
open Go.RowKit Go.Maps
theorem strKey : Keyed Tryz.prog 9 := string_keyed underlying9
theorem zeroInt (w : World) : (zeroValue 3).run Tryz.prog w = .ok (.int .i64 0) w := by kernel_rfl
abbrev mapRd (P : Program) : Value → Option (DataW Unit × List MemPlace) := plainElem P 3
structure MapF (w : World) (b n : Nat) (D : DataW Unit) (f : Str → Int) : Prop where
 own : w.ownsMap Tryz.prog 9 (mapRd Tryz.prog) b n D
 at_ : ∀ s : Str, D.atKey (.string s.data.toList) (.lit (.int .i64 0)) = .lit (.int .i64 (f s))
theorem MapF.kept {w w' : World} {b n : Nat} {D : DataW Unit} {f : Str → Int} (h : MapF w b n D f) (hb : Below w.heap.size w w') : MapF w' b n D f :=
 ⟨h.own.kept ⟨hb.os, hb.tape, hb.output, hb.size, fun k hk _ => hb.block k hk⟩ (row := none) (by simp), h.at_⟩
theorem MapF.lt {w : World} {b n : Nat} {D : DataW Unit} {f : Str → Int} (h : MapF w b n D f) : b < w.heap.size := h.own.lt
theorem MapF.setCell {w : World} {b n : Nat} {D : DataW Unit} {f : Str → Int} (h : MapF w b n D f) {a : Addr} (ha : a.block ≠ b) (u : Value) : MapF (w.setCell a u) b n D f := by
 obtain ⟨es, clock, h1, h2⟩ := h.own
 exact ⟨⟨es, clock, (kAA ha).trans h1, h2⟩, h.at_⟩
theorem MapF.made (w : World) : MapF (w.alloc (.map #[] 0)) w.heap.size 0 (.map []) (fun _ => 0) := ⟨World.ownsMap_made _ _ _ _, fun s => rfl⟩
theorem MapF.look {w : World} {b n : Nat} {D : DataW Unit} {f : Str → Int} (h : MapF w b n D f) (s : Str) (hs : s.size ≤ maxLen) : (Instr.lookup 165 (.map (some b)) (.string s) false).run Tryz.prog w = .ok (.int .i64 (f s)) w := by
 obtain ⟨c, hrun, hat, _⟩ := h.own.lookup_int strKey underlying165 underlying3 (zeroInt w) (WideMaps.keyOf_string_mk underlying9 hs); rw [h.at_ s] at hat; rw [hrun]
 injection hat with hat
 injection hat with _ hat
 rw [hat]
theorem MapF.put {w : World} {b n : Nat} {D : DataW Unit} {f : Str → Int} (h : MapF w b n D f) (hn : n < maxLen) (s : Str) (hs : s.size ≤ maxLen) (c : Int) (hc : -9223372036854775808 ≤ c ∧ c ≤ 9223372036854775807) :
 ∃ w' D', (Instr.mapUpdate 165 (.map (some b)) (.string s) (.int .i64 c)).run Tryz.prog w = .ok () w' ∧ MapF w' b (n + 1) D' (fun v => if seq s v then c else f v) ∧ w.grownBy w' (some b) := by
 obtain ⟨w', h1, h2, h3⟩ := h.own.update strKey underlying165 hn (WideMaps.keyOf_string_mk underlying9 hs) (plainElem_int underlying3 (WalkArith.wf_i64 hc))
 refine ⟨w', _, h1, ⟨h2, fun v => ?_⟩, h3⟩
 obtain ⟨es, hD, _⟩ := h.own.entries strKey
 by_cases hv : seq s v = true
 · rw [← (kA7 s v).1 hv, seq_refl]
   exact atKey_put_same (by rw [hD]; first | exact ⟨_, rfl⟩ | trivial) (strKey.key (WideMaps.keyOf_string_mk underlying9 hs)) _ _
 · rw [if_neg hv, atKey_put_other (fun e => hv ?_)]
   · exact h.at_ v
   · injection e with e
     exact (kA7 s v).2 (ByteArray.ext (Array.toList_inj.1 e.symm))
structure K2 (p b : Nat) (w w' : World) : Prop where
 os : w'.os = w.os
 tape : w'.tape = w.tape
 output : w'.output = w.output
 size : w.heap.size ≤ w'.heap.size
 block : ∀ k, k < w.heap.size → k ≠ p → k ≠ b → w'.heap[k]? = w.heap[k]?
theorem K2.refl (p b : Nat) (w : World) : K2 p b w w := ⟨rfl, rfl, rfl, Nat.le_refl _, fun _ _ _ _ => rfl⟩
theorem K2.trans {p b : Nat} {w w' w'' : World} (h : K2 p b w w') (h' : K2 p b w' w'') : K2 p b w w'' :=
 ⟨h'.os.trans h.os, h'.tape.trans h.tape, h'.output.trans h.output, Nat.le_trans h.size h'.size, fun k hk h1 h2 => (h'.block k (Nat.lt_of_lt_of_le hk h.size) h1 h2).trans (h.block k hk h1 h2)⟩
theorem K2.of_below {p b : Nat} {w w' : World} (h : Below w.heap.size w w') : K2 p b w w' := ⟨h.os, h.tape, h.output, h.size, fun k hk _ _ => h.block k hk⟩
theorem K2.of_grown {p b : Nat} {w w' : World} (h : w.grownBy w' (some b)) : K2 p b w w' := ⟨h.os, h.tape, h.output, h.size, fun k hk _ h2 => h.block k hk (fun e => h2 (by cases e; rfl))⟩
theorem K2.set {p b : Nat} (w : World) (j : Nat) (u : Value) : K2 p b w (w.setCell ⟨p, j, none⟩ u) := ⟨rfl, rfl, rfl, by simp, fun k _ h1 _ => kAA (fun e => h1 e.symm)⟩
theorem K2.below {p b B : Nat} {w w' : World} (h : K2 p b w w') (hp : B ≤ p) (hb : B ≤ b) (hB : B ≤ w.heap.size) : Below B w w' := ⟨h.os, h.tape, h.output, h.size, fun k hk => h.block k (by omega) (by omega) (by omega)⟩
theorem K2.bx {p b : Nat} {w w' : World} (h : K2 p b w w') {g : Nat} {E : TypeId} {cs : List Value} (hb : Bx w g E cs) (h1 : g ≠ p) (h2 : g ≠ b) : Bx w' g E cs := (h.block g hb.lt h1 h2).trans hb
theorem insSort_none (w : World) : Calls Tryz.prog 172 #[.slice none 0 0, .int .i64 0, .int .i64 0] w fun e w' => e = .returned (.tuple #[]) ∧ Below w.heap.size w w' := by
 go_enter func172, ntmps172
 go_wp2_with fail
 go_loopw [6] (fun i wr => i = .int .i64 1 ∧ Below w.heap.size w wr) (fun _ _ => 0)
 case atStart => exact ⟨rfl, Below.refl _ _⟩
 case round =>
  obtain ⟨rfl, hB⟩ := hrel
  go_wp2_with fail
  go_end0
  exact ⟨rfl, hB⟩
theorem pdq_none (l : Int) (w : World) : Calls Tryz.prog 133 #[.slice none 0 0, .int .i64 0, .int .i64 0, .int .i64 l] w fun e w' => e = .returned (.tuple #[]) ∧ Below w.heap.size w w' := by
 go_enter func133, ntmps133
 go_wp2_with fail
 go_loopw [1, 2] (fun a b wr => a = .int .i64 0 ∧ b = .int .i64 0 ∧ Below w.heap.size w wr) (fun _ _ _ => 0)
 case atStart => exact ⟨rfl, rfl, Below.refl _ _⟩
 case round =>
  obtain ⟨rfl, rfl, hB⟩ := hrel
  go_wp2_with fail
  refine (insSort_none _).mono ?_
  rintro e w1 ⟨rfl, hb⟩
  go_wp2_with fail
  refine bodyPost_ret (results_none rfl _ _ _) rfl ?_
  exact ⟨rfl, hB.trans (hb.mono hB.size)⟩
theorem sort_none (w : World) : Calls Tryz.prog 85 #[.slice none 0 0] w fun e w' => e = .returned (.tuple #[]) ∧ Below w.heap.size w w' := by
 go_enter func85, ntmps85
 go_wp2_with fail
 refine (Tryz.bits_Len 0 _ (by omega) (by omega)).mono ?_
 rintro e w1 ⟨rfl, rfl⟩
 go_wp2_with fail
 refine (pdq_none _ _).mono ?_
 rintro e w2 ⟨rfl, hb⟩
 go_wp2_with fail
 go_end0
 exact ⟨rfl, hb⟩
theorem insSort_Ent0 (a : Option Addr) (c : Nat) (w : World) (g : FuncId) : Calls Tryz.prog 137 #[.slice a 0 c, .int .i64 0, .int .i64 0, .func (.func g) #[] #[]] w fun e w' => e = .returned (.tuple #[]) ∧ w = w' := by
 go_enter func137, ntmps137
 go_wp2_with fail
 go_loopw [8] (fun i wr => i = .int .i64 1 ∧ w = wr) (fun _ _ => 0)
 case atStart => exact ⟨rfl, rfl⟩
 case round =>
  obtain ⟨rfl, rfl⟩ := hrel
  go_wp2_with fail
  go_end0
  exact ⟨rfl, rfl⟩
def SrtedE (S : Blk) (base : Nat) (cmp : Ent → Ent → Int) (l : List Ent) (v : Value) (w w' : World) : Prop := ∃ m, m.Perm l ∧ Le cmp m ∧ Own REnt 43 S w' base v m ∧ Kl v v w w'
theorem insSort_EntA {S : Blk} {w : World} {base : Nat} {v : Value} {l : List Ent} (h : Own REnt 43 S w base v l) (hbase : base ≤ w.heap.size) (hn : l.length ≤ 12) (g : FuncId) (hen : Ent1 g) (cmp : Ent → Ent → Int) (hc : PreC cmp)
 (hcmp : ∀ (S' T' : Blk) (W : World) (x y : Ent) (cs ds : List Value), REnt.rd S' W cs x → REnt.rd T' W ds y → Calls Tryz.prog g #[.agg cs.toArray, .agg ds.toArray] W fun e w' => e = .returned (.int .i64 (cmp x y)) ∧ Below W.heap.size W w') :
 Calls Tryz.prog 137 #[v, .int .i64 0, .int .i64 l.length, .func (.func g) #[] #[]] w fun e w' => (e = .returned (.tuple #[]) ∧ SrtedE S base cmp l v w w') ∧ Below base w w' := by
 by_cases hl : 0 < l.length
 · exact insSort_Ent h hbase hl (by omega) g hen cmp hc hcmp
 · obtain rfl : l = [] := List.eq_nil_of_length_eq_zero (by omega)
   obtain ⟨a, c, rfl, _⟩ := h.sl
   refine (insSort_Ent0 a c w g).mono ?_
   rintro e _ ⟨rfl, rfl⟩
   exact ⟨⟨rfl, [], List.Perm.refl _, List.Pairwise.nil, h, Kl.refl _ _⟩, Below.refl _ _⟩
theorem stable_Ent {S : Blk} {w : World} {base : Nat} {v : Value} {l : List Ent} (h : Own REnt 43 S w base v l) (hbase : base ≤ w.heap.size) (hn : l.length ≤ 12) (g : FuncId) (hen : Ent1 g) (cmp : Ent → Ent → Int) (hc : PreC cmp)
 (hcmp : ∀ (S' T' : Blk) (W : World) (x y : Ent) (cs ds : List Value), REnt.rd S' W cs x → REnt.rd T' W ds y → Calls Tryz.prog g #[.agg cs.toArray, .agg ds.toArray] W fun e w' => e = .returned (.int .i64 (cmp x y)) ∧ Below W.heap.size W w') :
 Calls Tryz.prog 96 #[v, .int .i64 l.length, .func (.func g) #[] #[]] w fun e w' => (e = .returned (.tuple #[]) ∧ SrtedE S base cmp l v w w') ∧ Below base w w' := by
 have HI := hJ (insSort_EntA h hbase hn g hen cmp hc hcmp); obtain ⟨a, m, c, rfl⟩ := h.shape; clear h hcmp hc
 generalize SrtedE S base cmp l (.slice a m c) w = Q at *
 generalize l.length = n at *
 have h12 : (n : Int) ≤ 12 := by omega
 have h20 : ¬((20 : Int) ≤ (n : Int)) := by omega
 have h21 : ¬((20 : Int) < (n : Int)) := by omega
 go_enter func96, ntmps96
 go_wp2_with fail
 go_loopw [7, 8] (fun a b wr => a = .int .i64 0 ∧ b = .int .i64 20 ∧ w = wr) (fun _ _ _ => 0)
 case atStart => exact ⟨rfl, rfl, rfl⟩
 case round =>
  obtain ⟨rfl, rfl, rfl⟩ := hrel
  go_wp2_with fail
  refine HI.out.mono ?_
  rintro e w1 ⟨⟨rfl, hs⟩, hb⟩
  have HS := hJ hs; clear hs
  go_wp2_with fail
  go_loopw [6] (fun a wr => a = .int .i64 20 ∧ w1 = wr) (fun _ _ => 0)
  case atStart => exact ⟨rfl, rfl⟩
  case round =>
   obtain ⟨rfl, rfl⟩ := hrel
   go_wp2_with fail
   go_end0
   exact ⟨⟨rfl, HS.out⟩, hb⟩
theorem sortStable_Ent {S : Blk} {w : World} {base : Nat} {v : Value} {l : List Ent} (h : Own REnt 43 S w base v l) (hbase : base ≤ w.heap.size) (hn : l.length ≤ 12) (g : FuncId) (hen : Ent1 g) (cmp : Ent → Ent → Int) (hc : PreC cmp)
 (hcmp : ∀ (S' T' : Blk) (W : World) (x y : Ent) (cs ds : List Value), REnt.rd S' W cs x → REnt.rd T' W ds y → Calls Tryz.prog g #[.agg cs.toArray, .agg ds.toArray] W fun e w' => e = .returned (.int .i64 (cmp x y)) ∧ Below W.heap.size W w') :
 Calls Tryz.prog 49 #[v, .func (.func g) #[] #[]] w fun e w' => (e = .returned (.tuple #[]) ∧ SrtedE S base cmp l v w w') ∧ Below base w w' := by
 have HI := hJ (stable_Ent h hbase hn g hen cmp hc hcmp); obtain ⟨a, c, rfl, _⟩ := h.sl; clear h hcmp hc
 generalize SrtedE S base cmp l (.slice a l.length c) w = Q at *
 generalize l.length = n at *
 go_enter func49, ntmps49
 go_wp2_with fail
 refine HI.out.mono ?_
 rintro e w1 ⟨⟨rfl, hs⟩, hb⟩
 have HS := hJ hs; clear hs
 go_wp2_with fail
 go_end0
 exact ⟨⟨rfl, HS.out⟩, hb⟩
open Go.RowKit Go.Shelf
attribute [local go_sem] Oper.semAt_some
structure E6 where
 x : Ent
 p : Option Addr
 pc : Nat
 t : Option Addr
 tc : Nat
 q : Option Addr
 qc : Nat
instance : Inhabited E6 := ⟨⟨default, none, 0, none, 0, none, 0⟩⟩
def E6.cs (e : E6) : List Value := [.string e.x.name, .slice e.p e.x.scheme.params.length e.pc, .string e.x.scheme.result.elem, .string e.x.scheme.result.shape.row, .slice e.t e.x.scheme.result.shape.dims.length e.tc, .slice e.q e.x.scheme.wh.length e.qc]
theorem E6.of {S : Blk} {w : World} {cs : List Value} {x : Ent} (h : REnt.rd S w cs x) : ∃ e : E6, e.x = x ∧ cs = e.cs := by
 obtain ⟨_, rfl, _, _, _, rfl, ⟨p, pc, rfl, _⟩, ⟨t, tc, rfl, _⟩, ⟨q, qc, rfl, _⟩⟩ := h
 exact ⟨⟨x, p, pc, t, tc, q, qc⟩, rfl, rfl⟩
theorem values_in (F : Fence) (n : Nat) (h5 : F.fn 25) (hro : F.round = none) (a : Option Addr) (len cap : Nat) (w : World) :
 CallsIn F n Tryz.prog 25 #[.slice a len cap] w fun e w' => e = .returned (.func (.func 50) #[] #[.pointer (some ⟨w.heap.size, 0, none⟩)]) ∧ w' = w.alloc (.cells #[.slice a len cap] 27) := by
 refine callsIn_of_wp func25 rfl h5 ?_ hro
 simp only [ntmps25, List.size_toArray, List.length_cons, List.length_nil, Nat.reduceAdd, Nat.reduceSub, Array.replicate_succ, Array.replicate_zero, List.push_toArray, List.append_toArray, List.nil_append, List.cons_append]
 gi_wp2
 go_ret
 exact ⟨rfl, rfl⟩
theorem upto_len {α : Type} (f : Nat → α) (k : Nat) : ((List.range k).map f).length = k := by simp
theorem upto_one {α : Type} (f : Nat → α) (k : Nat) : (List.range (k + 1)).map f = (List.range k).map f ++ [f k] := by simp [List.range_succ]
theorem values1_in (F : Fence) (n : Nat) (h7 : F.fn 50) (hro : F.round = none) (hn : 1 ≤ n) (l Bs n₀ b off len cap : Nat) (zs : List E6) (hlen : zs.length = len) (hl : len ≤ 100) (hb : b < n₀) (J Jx : List E6 → World → Prop) (A : Nat) (hA : AbidesFrom A J)
 (hY : ∀ pre x W, J pre W → pre.length < len → YieldAt F (n - 1) Tryz.prog l #[.agg x.cs.toArray] W fun e W' =>
   (e = .returned (.bool true) ∧ J (pre ++ [x]) W' ∧ Below n₀ W W') ∨ (e = .returned (.bool false) ∧ Jx (pre ++ [x]) W'))
 (W : World) (hn₀ : n₀ ≤ W.heap.size) (hBs : W.cell? ⟨Bs, 0, none⟩ = some (.slice (some ⟨b, off, none⟩) len cap)) (hc : ∀ j x, zs[j]? = some x → ∀ i u, x.cs[i]? = some u → W.cell? ⟨b, off + (j * 6 + i), none⟩ = some u) (h0 : J [] W) :
 CallsIn F n Tryz.prog 50 #[.func (.yield l) #[] #[], .pointer (some ⟨Bs, 0, none⟩)] W fun e W' => (∃ v, e = .returned v) ∧
  ((∃ ys, ys = (List.range len).map (fun j => zs.getD j default) ∧ J ys W') ∨ (∃ pre, (∃ k, k ≤ len ∧ pre = (List.range k).map (fun j => zs.getD j default)) ∧ Jx pre W')) := by
 have HC := hJ hc; have HLen := hJ hlen; have HY := hJ hY; have HA := hJ hA; clear hc hlen hY hA
 refine callsIn_of_wp func50 rfl h7 ?_ hro
 simp only [ntmps50, List.size_toArray, List.length_cons, List.length_nil, Nat.reduceAdd, Nat.reduceSub, Array.replicate_succ, Array.replicate_zero, List.push_toArray, List.append_toArray, List.nil_append, List.cons_append]
 gi_wp2
 gi_loopw [7] (fun i wr => ∃ k : Nat, k ≤ len ∧ i = .int .i64 k ∧ J ((List.range k).map (fun j => zs.getD j default)) wr ∧ Below n₀ W wr)
  (fun i _ => len - (intOf i).toNat)
 case atStart => exact ⟨0, Nat.zero_le _, rfl, h0, Below.refl _ _⟩
 case round =>
  obtain ⟨k, hk, rfl, hJs, hnx⟩ := hrel; have hsz := hnx.size
  by_cases hlt : k < len
  · obtain ⟨x, hx⟩ : ∃ x, zs.getD k default = x := ⟨_, rfl⟩
    have hgx : zs[k]? = some x := by rw [← hx]; exact kCY (by rw [HLen.out]; exact hlt)
    have hcx := fun i u hu => (hnx.cell (p := ⟨b, off + (k * 6 + i), none⟩) hb).trans (HC.out k x hgx i u hu)
    have c0 : wr.cell? ⟨b, off + k * 6, none⟩ = some (.string x.x.name) := hcx 0 _ rfl
    have c1 : wr.cell? ⟨b, off + k * 6 + 1, none⟩ = some (.slice x.p x.x.scheme.params.length x.pc) := hcx 1 _ rfl
    have c2 : wr.cell? ⟨b, off + k * 6 + 2, none⟩ = some (.string x.x.scheme.result.elem) := hcx 2 _ rfl
    have c3 : wr.cell? ⟨b, off + k * 6 + 3, none⟩ = some (.string x.x.scheme.result.shape.row) := hcx 3 _ rfl
    have c4 : wr.cell? ⟨b, off + k * 6 + 4, none⟩ = some (.slice x.t x.x.scheme.result.shape.dims.length x.tc) := hcx 4 _ rfl
    have c5 : wr.cell? ⟨b, off + k * 6 + 5, none⟩ = some (.slice x.q x.x.scheme.wh.length x.qc) := hcx 5 _ rfl
    have HX := hJ hx
    have hJb : J _ (wr.alloc (.cells x.cs.toArray 43)) := HA.out _ _ _ none hJs (World.grownBy_alloc wr _ none) (fun r e => by cases e)
    obtain ⟨fn, tmps, assign, body, hy, hR⟩ := HY.out _ x _ hJb (by rw [upto_len]; exact hlt)
    have hBa : Below n₀ wr (wr.alloc (.cells x.cs.toArray 43)) := (Below.refl _ _).alloc (Nat.le_trans hn₀ hsz) _
    have HBa := hJ hBa; clear hcx hgx hx hJb hBa
    simp only [E6.cs] at hy hR HBa
    gi_wp2
    refine hR.mono ?_
    rintro e W3 (⟨rfl, hJ3, hk3⟩ | ⟨rfl, hJx3⟩)
    · gi_wp2
      go_roundw
      case rel => exact ⟨k + 1, by omega, by simp, by rw [upto_one, HX.out]; exact hJ3, hnx.trans (HBa.out.trans hk3)⟩
      case measure => simp [intOf]; omega
    · gi_wp2
      refine bodyPost_ret (results_none rfl _ _ _) rfl ?_
      exact ⟨⟨_, rfl⟩, .inr ⟨_, ⟨k + 1, by omega, by rw [upto_one, HX.out]⟩, hJx3⟩⟩
  · obtain rfl : k = len := by omega
    gi_wp2
    go_end0
    exact ⟨⟨_, rfl⟩, .inl ⟨_, rfl, hJs⟩⟩
theorem upto_take6 (zs : List E6) {k : Nat} (hk : k ≤ zs.length) : (List.range k).map (fun j => zs.getD j default) = zs.take k := by
 apply List.ext_getElem
 · simp [hk]
 · intro i h1 h2
   have : i < zs.length := by simp at h1; omega
   simp [this]
def Hold6 (n₀ : Nat) (W : World) (sv : Value) (zs : List E6) : Prop :=
 (sv = .slice none 0 0 ∧ zs = []) ∨ ∃ b off cap, sv = .slice (some ⟨b, off, none⟩) zs.length cap ∧ b < n₀ ∧ ∀ j x, zs[j]? = some x → ∀ i u, x.cs[i]? = some u → W.cell? ⟨b, off + (j * 6 + i), none⟩ = some u
theorem Hold6.below {n₀ : Nat} {A B : World} (h : Below n₀ A B) {sv : Value} {zs : List E6} : Hold6 n₀ A sv zs → Hold6 n₀ B sv zs
 | .inl e => .inl e
 | .inr ⟨b, off, cap, e, hb, hc⟩ => .inr ⟨b, off, cap, e, hb, fun j x hx i u hu => (h.cell (p := ⟨b, off + (j * 6 + i), none⟩) hb).trans (hc j x hx i u hu)⟩
theorem values1_nil_in (F : Fence) (n : Nat) (h7 : F.fn 50) (hro : F.round = none) (l Bs : Nat) (J : List E6 → World → Prop) (W : World) (hBs : W.cell? ⟨Bs, 0, none⟩ = some (.slice none 0 0)) (h0 : J [] W) :
 CallsIn F n Tryz.prog 50 #[.func (.yield l) #[] #[], .pointer (some ⟨Bs, 0, none⟩)] W fun e W' => (∃ v, e = .returned v) ∧ J [] W' := by
 refine callsIn_of_wp func50 rfl h7 ?_ hro
 simp only [ntmps50, List.size_toArray, List.length_cons, List.length_nil, Nat.reduceAdd, Nat.reduceSub, Array.replicate_succ, Array.replicate_zero, List.push_toArray, List.append_toArray, List.nil_append, List.cons_append]
 gi_wp2
 gi_loopw [7] (fun i wr => i = .int .i64 0 ∧ J [] wr) (fun _ _ => 0)
 case atStart => exact ⟨rfl, h0⟩
 case round =>
  obtain ⟨rfl, hJs⟩ := hrel
  gi_wp2
  go_end0
  exact ⟨⟨_, rfl⟩, hJs⟩
theorem values_stops (F : Fence) (n : Nat) (h7 : F.fn 50) (hro : F.round = none) (hn : 1 ≤ n) (Bs n₀ : Nat) (sv : Value) (zs : List E6) (hl : zs.length ≤ 100) (w : World) (hBs : Bs < w.heap.size) (hn₀ : n₀ ≤ w.heap.size)
 (hc : w.cell? ⟨Bs, 0, none⟩ = some sv) (hI : Hold6 n₀ w sv zs) :
 SeqStopsK F n Tryz.prog 50 #[.pointer (some ⟨Bs, 0, none⟩)] (fun x : E6 => #[Value.agg x.cs.toArray]) (Below n₀) (fun ys => ys = zs) (fun pre => pre <+: zs) zs.length w := fun l J Jx W hW hA _ hY h0 => by
 have hc' := (hW.cell (p := ⟨Bs, 0, none⟩) hBs).trans hc
 rcases hI.below (hW.mono hn₀) with ⟨rfl, rfl⟩ | ⟨b, off, cap, rfl, hb, hcs⟩
 · exact (values1_nil_in F n h7 hro l Bs J W hc' h0).mono fun e W' ⟨he, hj⟩ => ⟨he, .inl ⟨_, rfl, hj⟩⟩
 · refine (values1_in F n h7 hro hn l Bs n₀ b off zs.length cap zs rfl hl hb J Jx W.heap.size hA hY W (Nat.le_trans hn₀ hW.size) hc' hcs h0).mono ?_
   rintro e W' ⟨he, ⟨ys, rfl, hj⟩ | ⟨pre, ⟨k, hk, rfl⟩, hj⟩⟩
   · exact ⟨he, .inl ⟨_, by rw [upto_take6 zs (Nat.le_refl _), List.take_length], hj⟩⟩
   · exact ⟨he, .inr ⟨_, by rw [upto_take6 zs hk]; exact List.take_prefix _ _, hj⟩⟩
open Go.RowKit Go.Shelf
attribute [local go_sem] Oper.semAt_some
theorem elemEnt : ElemOf Tryz.prog 27 43 REnt.size 120 := ⟨by kernel_rfl, by kernel_rfl⟩
theorem appendSeq_in (F : Fence) (n : Nat) (h95 : F.fn 95) (hro : F.round = none) (hn : 2 ≤ n) (g : Nat) (lb : Array Value) (hFg : F.fn g) (eg : ∀ args w, (callFunc g args).run Tryz.prog w = .ok (.enter g args) w)
 (S Sp : List E6 → Prop) (N : Nat) (hN : N ≤ 100) (w : World) (hseq : SeqStopsK F (n - 1) Tryz.prog g lb (fun x : E6 => #[Value.agg x.cs.toArray]) (Below w.heap.size) S Sp N w) :
 CallsIn F n Tryz.prog 95 #[.slice none 0 0, .func (.func g) #[] lb] w fun e w' => ∃ (v : Value) (zs : List E6), e = .returned v ∧ S zs ∧ w'.ownsRow w.heap.size 43 6 v zs.length (zs.flatMap E6.cs) ∧ (v = .slice none 0 0 ↔ zs = []) ∧ Below w.heap.size w w' := by
 have h1 : 1 ≤ n := by omega
 refine callsIn_of_wp_marks func95 rfl h95 ?_ hro
 simp only [ntmps95, List.size_toArray, List.length_cons, List.length_nil, Nat.reduceAdd, Nat.reduceSub, Array.replicate_succ, Array.replicate_zero, List.push_toArray, List.append_toArray, List.nil_append, List.cons_append]
 gi_wp2
 have bS := Boxed.new w 27 (.slice none 0 0)
 have hB0 : Below w.heap.size w (w.alloc (.cells #[.slice none 0 0] 27)) := (Below.refl _ w).alloc (Nat.le_refl _) _
 have hsz : (w.alloc (.cells #[.slice none 0 0] 27)).heap.size = w.heap.size + 1 := by simp
 obtain ⟨W0, hW0⟩ : ∃ W0, w.alloc (.cells #[.slice none 0 0] 27) = W0 := ⟨_, rfl⟩
 rw [hW0] at bS hB0 hsz ⊢
 clear hW0
 refine wpIn_rangeFunc_ownH hro h1 (gf := g) (lb := lb) rfl hFg eg hseq belowK_t (belowK_b (by omega)) hB0 (fun _ => rfl)
  (fun pre W => (∃ v, Boxed W w.heap.size 27 v ∧ W.ownsRow w.heap.size 43 6 v pre.length (pre.flatMap E6.cs) ∧ (v = .slice none 0 0 ↔ pre = [])) ∧ Below w.heap.size w W)
  (fun _ _ _ => False)
  (OwnFrom.and (Own.from (holdsRow_own w.heap.size w.heap.size 27 43 6 (fun pre => pre.length) (fun pre => pre.flatMap E6.cs) (fun pre v => v = .slice none 0 0 ↔ pre = [])) _) (ownFrom_below (Nat.le_refl _) (by omega)))
  (fun _ _ _ _ _ hs _ _ => hs)
  ⟨⟨_, bS, World.ownsRow_nil _ _ _ _, by simp⟩, hB0⟩
  (fun x a' W => ∃ Bk, w.heap.size < Bk ∧ W.heap[Bk]? = some (.cells x.cs.toArray 43 (0, 0)) ∧ a' = { tmps := #[.slice none 0 0, .func (.func g) #[] lb, .pointer (some ⟨w.heap.size, 0, none⟩), undef, .slice none 0 0, .pointer (some ⟨Bk, 0, none⟩), .func (.func g) #[] lb, .agg x.cs.toArray, undef, undef, undef, undef, undef], defers := [] })
  ?hAx ?assign ?body ?done ?stop
 case hAx =>
  rintro x a' _ X Y row ⟨Bk, h1, h2, h3⟩ hg hr
  refine ⟨Bk, h1, (hg.5 Bk (Array.getElem?_eq_some_iff.1 h2).1 (fun e' => ?_)).trans h2, h3⟩
  obtain ⟨_, o, ho, hc⟩ := hr Bk (by first | exact e'.symm | exact e')
  rw [h2] at ho
  cases ho
  cases hc
 case assign =>
  rintro l pre x W K ⟨⟨v, hv, hrow, hnil⟩, hB⟩ hK
  simp only [E6.cs] at hK ⊢
  gi_wp2
  exact hK _ _ ((KeepsOthers.alloc _ _).from _) ((Below.refl _ W).alloc hB.size _) ⟨⟨v, hv.alloc _, hrow.alloc _, hnil⟩, hB.alloc hB.size _⟩ ⟨W.heap.size, hv.lt, World.alloc_heap_new W _, rfl⟩
 case body =>
  rintro l pre x a' W hl ⟨r, hr⟩ ⟨⟨v, hv, hrow, hnil⟩, hB⟩ ⟨Bk, hBk, hbk, rfl⟩ hlt
  obtain ⟨i0, z0, hi, hz, hs, hb, hzs⟩ := elemEnt.parts; have hc := hv.cell; have c0 := kA4 43 hbk 0 _ rfl; have c1 := kA4 43 hbk 1 _ rfl; have c2 := kA4 43 hbk 2 _ rfl; have c3 := kA4 43 hbk 3 _ rfl; have c4 := kA4 43 hbk 4 _ rfl; have c5 := kA4 43 hbk 5 _ rfl
  have hone : ∀ u ∈ x.cs, u.oneCell' = true := by
   intro u hu
   simp [E6.cs] at hu
   rcases hu with rfl | rfl | rfl | rfl | rfl | rfl <;> rfl
  have hnew : ∀ j u, x.cs[j]? = some u → (W.alloc (.cells x.cs.toArray 43)).cell? ((⟨W.heap.size, 0, none⟩ : Addr).add j) = some u := fun j u hu => by
   rw [kG2, Nat.zero_add]
   exact kA4 43 (World.alloc_heap_new W _) j u hu
  gi_wp2_with (gi_at_builtin; refine wpListIn_append_own _ rfl _ _ 27 rfl w.heap.size 43 i0 z0 6 120 underlying27 hi hz hs hb hzs (by decide) _ _ _ rfl (hrow.alloc _) ⟨W.heap.size, 0, none⟩ 1 1 x.cs rfl rfl hnew hone (by unfold maxLen; omega) (by omega) (by have := hB.size; simp; omega) ?_; intro v' w1 hown' hgrow _; obtain ⟨g', cap', rfl⟩ := ownsRow_succ hown'; obtain ⟨hv1, hv2, hr2, hk2, hb2⟩ := hv.appended (by decide) hrow hB.size (Nat.le_refl _) hown' hgrow; have hc1 := hv1.cell; have hf1 := hv1.frozen)
  exact ⟨hk2.from _, hb2, ⟨_, hv2, by simpa using hr2, by simp⟩, hB.trans hb2⟩
 case done =>
  rintro D ys W hD hS ⟨⟨v, hv, hrow, hnil⟩, hB⟩ hK
  have hc := hv.cell
  gi_wp2
  refine ⟨by simp, .inl ⟨_, _, rfl, run_takeDeferred hK, ?_⟩⟩
  exact ⟨_, results_tmp rfl _ _ _, v, ys, rfl, hS, ownsRow_putObj hrow _ hK rfl, hnil, hB.trans (belowK_b (w := w) (Nat.le_refl _) W D _ _ (by omega) hK rfl rfl)⟩
 case stop =>
  rintro D c pre W hD hS h
  exact h.elim
theorem collect_in (F : Fence) (n : Nat) (h48 : F.fn 48) (h95 : F.fn 95) (hro : F.round = none) (hn : 3 ≤ n) (g : Nat) (lb : Array Value) (hFg : F.fn g) (eg : ∀ args w, (callFunc g args).run Tryz.prog w = .ok (.enter g args) w)
 (S Sp : List E6 → Prop) (N : Nat) (hN : N ≤ 100) (w : World) (hseq : SeqStopsK F (n - 1 - 1) Tryz.prog g lb (fun x : E6 => #[Value.agg x.cs.toArray]) (Below w.heap.size) S Sp N w) :
 CallsIn F n Tryz.prog 48 #[.func (.func g) #[] lb] w fun e w' => ∃ (v : Value) (zs : List E6), e = .returned v ∧ S zs ∧ w'.ownsRow w.heap.size 43 6 v zs.length (zs.flatMap E6.cs) ∧ (v = .slice none 0 0 ↔ zs = []) ∧ Below w.heap.size w w' := by
 have h1 : 1 ≤ n := by omega
 refine callsIn_of_wp func48 rfl h48 ?_ hro
 simp only [ntmps48, List.size_toArray, List.length_cons, List.length_nil, Nat.reduceAdd, Nat.reduceSub, Array.replicate_succ, Array.replicate_zero, List.push_toArray, List.append_toArray, List.nil_append, List.cons_append]
 gi_wp2_with (gi_at_call 95; refine (appendSeq_in F (n - 1) h95 hro (by omega) g lb hFg eg S Sp N hN _ hseq).mono ?_; rintro e w' ⟨v, zs, rfl, hS, hrow, hnil, hb⟩; have HN' := hJ hnil; have HS' := hJ hS; clear hnil hS)
 go_ret
 exact ⟨v, zs, rfl, HS'.out, hrow, HN'.out, hb⟩
theorem collect_Values (w : World) (sv : Value) (zs : List E6) (hl : zs.length ≤ 100) (Bs : Nat) (hBs : Bs < w.heap.size) (hc : w.cell? ⟨Bs, 0, none⟩ = some sv) (hI : Hold6 w.heap.size w sv zs) :
 Calls Tryz.prog 48 #[.func (.func 50) #[] #[.pointer (some ⟨Bs, 0, none⟩)]] w fun e w' => ∃ v : Value, e = .returned v ∧ w'.ownsRow w.heap.size 43 6 v zs.length (zs.flatMap E6.cs) ∧ (v = .slice none 0 0 ↔ zs = []) ∧ Below w.heap.size w w' :=
 (callsIn_wide.1 (collect_in Fence.wide 5 trivial trivial rfl (by decide) _ _ trivial (enters_of func50 (by kernel_rfl) rfl) _ _ _ hl w (values_stops Fence.wide 3 trivial rfl (by decide) Bs w.heap.size sv zs hl w hBs (Nat.le_refl _) hc hI))).mono fun e w' ⟨v, ys, he, hS, hrow, hnil, hb⟩ => by
   subst hS
   exact ⟨v, he, hrow, hnil, hb⟩
theorem values_Ent (a : Option Addr) (len cap : Nat) (w : World) : Calls Tryz.prog 25 #[.slice a len cap] w fun e w' => e = .returned (.func (.func 50) #[] #[.pointer (some ⟨w.heap.size, 0, none⟩)]) ∧ w' = w.alloc (.cells #[.slice a len cap] 27) :=
 callsIn_wide.1 (values_in Fence.wide 1 trivial rfl a len cap w)
theorem E6.size (e : E6) : e.cs.length = 6 := rfl
theorem pick6 : ∀ (l : List Ent) (P : Nat → E6 → Prop), (∀ i x, l[i]? = some x → ∃ e : E6, e.x = x ∧ P i e) → ∃ zs : List E6, zs.map E6.x = l ∧ ∀ i e, zs[i]? = some e → P i e
 | [], P, _ => ⟨[], rfl, fun i e h => by simp at h⟩
 | x :: l, P, h => by
   obtain ⟨e0, he0, hp0⟩ := h 0 x rfl
   obtain ⟨zs, hz, hp⟩ := pick6 l (fun i e => P (i + 1) e) (fun i y hy => h (i + 1) y (by simpa using hy))
   refine ⟨e0 :: zs, by rw [List.map_cons, he0, hz], fun i e hi => ?_⟩
   cases i with
   | zero => simp at hi; subst hi; exact hp0
   | succ i => exact hp i e (by simpa using hi)
def Fit (w : World) (a : Option Addr) : Prop := ∀ ad, a = some ad → ∃ b off, ad = ⟨b, off, none⟩ ∧ b < w.heap.size
theorem Fit.below {w w' : World} {a : Option Addr} (h : Fit w a) (hs : w.heap.size ≤ w'.heap.size) : Fit w' a := fun ad e => by
 obtain ⟨b, off, e', hb⟩ := h ad e
 exact ⟨b, off, e', by omega⟩
theorem Sl.e6 {S : Blk} {w : World} {a : Option Addr} {n c : Nat} {l : List Ent} (h : Sl REnt S w a n c l) (hf : Fit w a) : ∃ zs : List E6, zs.map E6.x = l ∧ Hold6 w.heap.size w (.slice a n c) zs ∧ ∀ z ∈ zs, REnt.rd S w z.cs z.x := by
 obtain ⟨zs, hz, hp⟩ := pick6 l (fun i e => REnt.rd S w e.cs e.x ∧ ∃ b off, a = some ⟨b, off, none⟩ ∧ ∀ j u, e.cs[j]? = some u → w.cell? ⟨b, off + (i * 6 + j), none⟩ = some u) (fun i x hx => by
  obtain ⟨b, off, cs, ha, _, hr, hc⟩ := h.at_ i x hx; obtain ⟨e, he, rfl⟩ := E6.of hr
  exact ⟨e, he, by rw [he]; exact hr, b, off, ha, hc⟩)
 have hl : zs.length = n := by rw [← h.len, ← hz, List.length_map]
 refine ⟨zs, hz, ?_, fun z hz' => ?_⟩
 · cases a with
   | none =>
     have h0 := h.nil rfl; have h1 := h.cap; subst h0
     obtain rfl : n = 0 := by omega
     exact .inl ⟨rfl, List.eq_nil_of_length_eq_zero hl⟩
   | some ad =>
     obtain ⟨b, off, rfl, hb⟩ := hf ad rfl
     refine .inr ⟨b, off, c, by rw [hl], hb, fun j x hx i u hu => ?_⟩
     obtain ⟨_, b', off', e', hc⟩ := hp j x hx
     cases e'
     exact hc i u hu
 · obtain ⟨i, hi, rfl⟩ := List.getElem_of_mem hz'
   exact (hp i _ (List.getElem?_eq_getElem hi)).1
theorem Hold6.lift {n₀ n₁ : Nat} {A : World} (h : n₀ ≤ n₁) {sv : Value} {zs : List E6} : Hold6 n₀ A sv zs → Hold6 n₁ A sv zs
 | .inl e => .inl e
 | .inr ⟨b, off, cap, e, hb, hc⟩ => .inr ⟨b, off, cap, e, by omega, hc⟩
theorem own_e6 {S : Blk} {w : World} {base : Nat} {v : Value} {zs : List E6} (hrow : w.ownsRow base 43 6 v zs.length (zs.flatMap E6.cs)) (hr : ∀ z ∈ zs, REnt.rd (fun k => S k ∧ v.ownBlock ≠ some k) w z.cs z.x) : Own REnt 43 S w base v (zs.map E6.x) := by
 refine ⟨zs.map E6.cs, by simp, ?_, fun i x hx => ?_⟩
 · rw [List.length_map, ← List.flatMap_def]
   exact hrow
 · rw [List.getElem?_map] at hx
   cases hz : zs[i]? with
   | none => rw [hz] at hx; cases hx
   | some z =>
     rw [hz] at hx
     simp only [Option.map_some, Option.some.injEq] at hx
     subst hx
     exact ⟨z.cs, by rw [List.getElem?_map, hz]; rfl, hr z (List.mem_of_getElem? hz)⟩
theorem own_row6 {S : Blk} {w w' : World} {base : Nat} {v : Value} {zs : List E6} (hrow : w'.ownsRow base 43 6 v zs.length (zs.flatMap E6.cs)) (hr : ∀ z ∈ zs, REnt.rd S w z.cs z.x) (hb : Below w.heap.size w w') (hbase : w.heap.size ≤ base) : Own REnt 43 (fun k => S k ∧ k < w.heap.size) w' base v (zs.map E6.x) := by
 refine own_e6 hrow (fun z hz => ?_)
 refine REnt.below (REnt.mono (hr z hz) (fun k hs hk => ⟨⟨hs, hk⟩, fun e => ?_⟩)) hb
 obtain ⟨a, c, rfl, _, _, _, hg⟩ := kCA hrow
 cases a with
 | none => simp [Value.ownBlock] at e
 | some ad =>
   obtain ⟨g, rfl, hg1, _⟩ := hg ad rfl
   simp [Value.ownBlock] at e
   omega
def cmpE (a b : Ent) : Int := cmpS a.name b.name
theorem kGF (a b : Str) : cmpS a b < 0 ↔ slt a b = true := by
 unfold cmpS
 cases h : slt a b with
 | true => simp
 | false => cases slt b a <;> simp
theorem cmpS_anti (a b : Str) : cmpS b a = -cmpS a b := by
 unfold cmpS
 cases h : slt a b with
 | true => rw [kE8 h]; rfl
 | false => cases slt b a <;> rfl
theorem cmpS_le (a b : Str) : cmpS a b ≤ 0 ↔ slt b a = false := by
 unfold cmpS
 cases h : slt a b with
 | true => rw [kE8 h]; decide
 | false => cases slt b a <;> decide
theorem preE : PreC cmpE := ⟨fun a b => cmpS_anti a.name b.name, fun a b c h1 h2 => by
 unfold cmpE at *
 rw [cmpS_le] at *
 rw [Bool.eq_false_iff]
 intro h3
 cases hab : slt a.name b.name with
 | true =>
   have h4 := kBR h3 hab
   rw [h2] at h4; cases h4
 | false =>
   have := kCO hab h1
   rw [this, h2] at h3; cases h3⟩
theorem sortedStable_Ent {S : Blk} {w : World} (sv : Value) (zs : List E6) (hl : zs.length ≤ 12) (Bs : Nat) (hBs : Bs < w.heap.size) (hc : w.cell? ⟨Bs, 0, none⟩ = some sv) (hI : Hold6 w.heap.size w sv zs) (hr : ∀ z ∈ zs, REnt.rd S w z.cs z.x) :
 Calls Tryz.prog 24 #[.func (.func 50) #[] #[.pointer (some ⟨Bs, 0, none⟩)], .func (.func 26) #[] #[]] w fun e w' =>
  (∃ v, e = .returned v ∧ ∃ m : List Ent, m.Perm (zs.map E6.x) ∧ Le cmpE m ∧ Own REnt 43 (fun k => S k ∧ k < w.heap.size) w' w.heap.size v m) ∧ Below w.heap.size w w' := by
 have HC := hJ (collect_Values w sv zs (by omega) Bs hBs hc hI)
 have HR := hJ hr
 have hlm : (zs.map E6.x).length ≤ 12 := by rw [List.length_map]; exact hl
 clear hc hI hr
 go_enter func24, ntmps24
 go_wp2_with fail
 refine HC.out.mono ?_
 rintro e w1 ⟨v, rfl, hrow, _, hb⟩
 have hown := own_row6 hrow HR.out hb (Nat.le_refl _)
 have HS := hJ (sortStable_Ent hown hb.size hlm 26 (kBM func26 rfl rfl) cmpE preE (fun S' T' W x y cs ds h1 h2 => signature_byName h1 h2))
 obtain ⟨a, n, c, rfl⟩ := hown.shape; clear hown hrow
 go_wp2_with fail
 refine HS.out.mono ?_
 rintro e w2 ⟨⟨rfl, m, hp, hle, ho, hk⟩, hb2⟩
 have HP := hJ hp; have HL := hJ hle; have HO := hJ ho; clear hp hle ho hk HS
 go_wp2_with fail
 go_ret
 exact ⟨⟨_, rfl, m, HP.out, HL.out, HO.out⟩, hb.trans hb2⟩
end Go.Proofs.YtjongcdlginjlaaGreatDoor
