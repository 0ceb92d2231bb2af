/- The claim's texts, part 10: contracts of the functions that the statement reaches, and what they say of the data. -/
import Derived.Test.YtjongcdlginjlaaGreatDoorPm9
set_option maxRecDepth 100000
set_option maxHeartbeats 8000000
set_option linter.all false
namespace Go.Proofs.YtjongcdlginjlaaGreatDoor
open Go.Proofs.Tryz
open Go.RowKit
structure Els {α : Type} (R : Rep α) (S : Blk) (w : World) (a : Option Addr) (n c : Nat) (l : List α) : Prop where
 len : l.length = n
 cap : n ≤ c
 max : c ≤ maxLen
 nil : a = none → c = 0
 at_ : ∀ (i : Nat) (x : α), l[i]? = some x → ∃ b off cs, a = some ⟨b, off, none⟩ ∧ R.rd S w cs x ∧ ∀ j u, cs[j]? = some u → w.cell? ⟨b, off + (i * R.size + j), none⟩ = some u
theorem Sl.els {α : Type} {R : Rep α} {S : Blk} {w : World} {a : Option Addr} {n c : Nat} {l : List α} (h : Sl R S w a n c l) : Els R S w a n c l := ⟨h.len, h.cap, h.max, h.nil, fun i x hx => let ⟨b, off, cs, ha, _, hr, hc⟩ := h.at_ i x hx; ⟨b, off, cs, ha, hr, hc⟩⟩
theorem Own.els {α : Type} {R : Rep α} {E : TypeId} {S : Blk} {w : World} {base : Nat} {v : Value} {l : List α} (h : Own R E S w base v l) : ∃ a c, v = .slice a l.length c ∧ Els R (fun k => S k ∧ v.ownBlock ≠ some k) w a l.length c l := by
 obtain ⟨css, hl, hrow, hel⟩ := h.row; obtain ⟨a, c, e, hs⟩ := h.sl
 refine ⟨a, c, e, hs.len, hs.cap, hs.max, hs.nil, fun i x hx => ?_⟩
 obtain ⟨cs, hcs, hr⟩ := hel i x hx; subst e
 have hall : ∀ cs ∈ css, cs.length = R.size := fun cs' hm' => by
  obtain ⟨i', hi', rfl⟩ := List.getElem_of_mem hm'
  obtain ⟨cs2, e2, r2⟩ := hel i' (l[i']'(by omega)) (List.getElem?_eq_getElem (by omega))
  rw [List.getElem?_eq_getElem hi'] at e2
  cases e2
  exact R.len r2
 obtain ⟨_, ⟨hv, h0⟩ | ⟨g, cap, cur, hv, hg, hh, hn, hm, hsz, ht⟩⟩ := hrow
 · obtain rfl : l = [] := List.eq_nil_of_length_eq_zero h0
   simp at hx
 · rw [Value.slice.injEq] at hv
   obtain ⟨rfl, -, rfl⟩ := hv
   refine ⟨g, 0, cs, rfl, hr, fun j u hu => ?_⟩
   have hu2 := kEC hall i cs j u hcs hu
   have hlt : i * R.size + j < l.length * R.size := by
    have hfl : css.flatten.length = l.length * R.size := by rw [kBD hall, hl]
    rw [← hfl]
    rcases Nat.lt_or_ge (i * R.size + j) css.flatten.length with q | q
    · exact q
    · rw [List.getElem?_eq_none q] at hu2; cases hu2
   rw [Nat.zero_add]
   have : cur.toList[i * R.size + j]? = some u := by
    rw [← ht, List.getElem?_take, if_pos hlt] at hu2
    exact hu2
   simp [World.cell?, hh]
   rw [← Array.getElem?_toList]
   exact this
theorem Els.below {α : Type} {R : Rep α} {S : Blk} {w w' : World} {a : Option Addr} {n c : Nat} {l : List α} (h : Els R S w a n c l) (hb : Below w.heap.size w w') : Els R S w' a n c l :=
 ⟨h.len, h.cap, h.max, h.nil, fun i x hx => let ⟨b, off, cs, ha, hr, hc⟩ := h.at_ i x hx; ⟨b, off, cs, ha, R.below hr hb, fun j u hu => kCB (hc j u hu) (hb.block b)⟩⟩
theorem Els.mono {α : Type} {R : Rep α} {S S' : Blk} {w : World} {a : Option Addr} {n c : Nat} {l : List α} (h : Els R S w a n c l) (hs : ∀ k, S k → k < w.heap.size → S' k) : Els R S' w a n c l :=
 ⟨h.len, h.cap, h.max, h.nil, fun i x hx => let ⟨b, off, cs, ha, hr, hc⟩ := h.at_ i x hx; ⟨b, off, cs, ha, R.mono hr hs, hc⟩⟩
theorem Els.full {α : Type} {R : Rep α} {S : Blk} {w : World} {a : Option Addr} {n c : Nat} {l : List α} (h : Els R S w a n c l) (m : Nat) (hm : m ≤ n) : Els R S w a m m (l.take m) :=
 ⟨by rw [List.length_take, h.len]; omega, Nat.le_refl _, by have := h.max; have := h.cap; omega, fun e => by have := h.nil e; have := h.cap; omega, fun i x hx => by
   rw [List.getElem?_take] at hx
   split at hx
   · exact h.at_ i x hx
   · cases hx⟩
theorem Els.drop {α : Type} {R : Rep α} {S : Blk} {w : World} {b off n c : Nat} {l : List α} (h : Els R S w (some ⟨b, off, none⟩) n c l) (m : Nat) (hm : m ≤ n) : Els R S w (some ⟨b, off + m * R.size, none⟩) (n - m) (c - m) (l.drop m) := by
 refine ⟨by rw [List.length_drop, h.len], by have := h.cap; omega, by have := h.max; omega, (by intro h; cases h), fun i x hx => ?_⟩
 rw [List.getElem?_drop] at hx; obtain ⟨b', off', cs, ha, hr, hc⟩ := h.at_ (m + i) x hx
 cases ha
 refine ⟨b, off + m * R.size, cs, rfl, hr, fun j u hu => ?_⟩
 have := hc j u hu
 rw [Nat.add_mul] at this
 rwa [show off + m * R.size + (i * R.size + j) = off + (m * R.size + i * R.size + j) by omega]
theorem Els.none {α : Type} {R : Rep α} {S : Blk} {w : World} {a : Option Addr} {c : Nat} (hm : c ≤ maxLen) (hn : a = none → c = 0) : Els R S w a 0 c [] := ⟨rfl, Nat.zero_le _, hm, hn, fun i x h => by simp at h⟩
theorem Els.cellsList {α : Type} {R : Rep α} {S : Blk} {w : World} {ad : Addr} {n c : Nat} {l : List α} (h : Els R S w (some ad) n c l) :
 ∃ css : List (List Value), css.length = l.length ∧ (∀ cs ∈ css, cs.length = R.size) ∧ (∀ (i : Nat) (x : α), l[i]? = some x → ∃ cs, css[i]? = some cs ∧ R.rd S w cs x) ∧ (∀ j u, css.flatten[j]? = some u → w.cell? (ad.add j) = some u) ∧ ∀ u ∈ css.flatten, u.oneCell' = true := by
 have hch : ∀ (n : Nat) (q : List α), (∀ (i : Nat) (x : α), q[i]? = some x → ∃ cs : List Value, R.rd S w cs x ∧ ∀ j u, cs[j]? = some u → w.cell? (ad.add ((n + i) * R.size + j)) = some u) →
  ∃ dss : List (List Value), dss.length = q.length ∧ (∀ (i : Nat) (x : α), q[i]? = some x → ∃ cs, dss[i]? = some cs ∧ R.rd S w cs x ∧ ∀ j u, cs[j]? = some u → w.cell? (ad.add ((n + i) * R.size + j)) = some u) := by
  intro n q
  induction q generalizing n with
  | nil => exact fun _ => ⟨[], rfl, fun i x hx => by simp at hx⟩
  | cons x q ih =>
    intro hq
    obtain ⟨cs, c1, c2⟩ := hq 0 x rfl
    obtain ⟨dss, d1, d2⟩ := ih (n + 1) (fun i y hy => by
     obtain ⟨ds, e1, e2⟩ := hq (i + 1) y (by simpa using hy)
     exact ⟨ds, e1, by rwa [show n + 1 + i = n + (i + 1) by omega]⟩)
    refine ⟨cs :: dss, by simp [d1], fun i y hy => ?_⟩
    cases i with
    | zero => simp at hy; subst hy; exact ⟨cs, rfl, c1, c2⟩
    | succ i =>
      obtain ⟨ds, e1, e2, e3⟩ := d2 i y (by simpa using hy)
      exact ⟨ds, by simpa using e1, e2, by rwa [show n + 1 + i = n + (i + 1) by omega] at e3⟩
 obtain ⟨dss, hdl, hdd⟩ := hch 0 l (fun i x hx => by
  obtain ⟨b, off, cs, e, r1, r2⟩ := h.at_ i x hx
  cases e
  refine ⟨cs, r1, fun j u hu => ?_⟩
  rw [kG2, Nat.zero_add]
  exact r2 j u hu)
 have hdm : ∀ cs ∈ dss, cs.length = R.size := fun cs hc => by
  obtain ⟨i, hi', rfl⟩ := List.getElem_of_mem hc
  obtain ⟨cs2, e2, r2, _⟩ := hdd i (l[i]'(by omega)) (List.getElem?_eq_getElem (by omega))
  rw [List.getElem?_eq_getElem hi'] at e2
  cases e2
  exact R.len r2
 refine ⟨dss, hdl, hdm, fun i x hx => let ⟨cs, e1, e2, _⟩ := hdd i x hx; ⟨cs, e1, e2⟩, fun j u hu => ?_, fun u hu => ?_⟩
 · obtain ⟨cs, e1, e2⟩ := flatten_get R.pos hdm j u hu
   have hjl : j / R.size < dss.length := by
    rcases Nat.lt_or_ge (j / R.size) dss.length with q | q
    · exact q
    · rw [List.getElem?_eq_none q] at e1; cases e1
   obtain ⟨cs2, f1, f2, f3⟩ := hdd (j / R.size) (l[j / R.size]'(by omega)) (List.getElem?_eq_getElem (by omega))
   rw [e1] at f1
   cases f1
   have := f3 _ u e2
   rwa [Nat.zero_add, Nat.mul_comm, Nat.div_add_mod] at this
 · obtain ⟨cs, hc, hu'⟩ := List.mem_flatten.1 hu
   obtain ⟨i, hi', rfl⟩ := List.getElem_of_mem hc
   obtain ⟨cs2, e2, r2, _⟩ := hdd i (l[i]'(by omega)) (List.getElem?_eq_getElem (by omega))
   rw [List.getElem?_eq_getElem hi'] at e2
   cases e2
   exact R.one r2 u hu'
theorem Els.run_full {α : Type} {R : Rep α} {P : Program} {T E : TypeId} {bytes : Nat} (he : ElemOf P T E R.size bytes) {S : Blk} {w : World} {a : Option Addr} {k : Nat} {l1 l2 : List α} (h1 : Els R S w a k k l1) (ty : TypeId) {ao : Option Addr} {m c : Nat} (h2 : Els R S w ao m c l2) (hm : 0 < m)
 (hlen : (k + m) * bytes ≤ 140737488355328) (hmax : k + m ≤ maxLen) :
 ∃ v' w', (Builtin.append_ #[T, T] ty #[.slice a k k, .slice ao m c]).run P w = .ok v' w' ∧ Own R E S w' w.heap.size v' (l1 ++ l2) ∧ Below w.heap.size w w' := by
 obtain ⟨i0, z0, hi, hz, hs, hb, hzs⟩ := he.parts
 cases a with
 | none =>
   have hk := h1.nil rfl; subst hk; obtain rfl : l1 = [] := List.eq_nil_of_length_eq_zero h1.len
   obtain ⟨v', w', r1, r2, r3, _⟩ := (Own.nil R E S w w.heap.size).run_app he (l' := l2) ty ao m c h2.len h2.nil (fun i x hx => by
    obtain ⟨b, off, cs, e, q1, q2⟩ := h2.at_ i x hx
    exact ⟨b, off, cs, e, R.mono q1 (fun q hq _ => ⟨hq, fun e => by cases e⟩), q2⟩) (by simpa using hlen) (by simpa using hmax) (Nat.le_refl _)
   exact ⟨v', w', r1, r2, r3⟩
 | some ad =>
   cases ao with
   | none => have := h2.nil rfl; have := h2.cap; omega
   | some ax =>
     obtain ⟨css, c1, c2, c3, c4, c5⟩ := h1.cellsList; obtain ⟨dss, d1, d2, d3, d4, d5⟩ := h2.cellsList
     obtain ⟨v', w', r1, r2, r3⟩ := run_append_arg_grows (P := P) w T ty E i0 z0 R.size bytes he.slice hi hz hs hb hzs R.pos ad k k css.flatten (by rw [kBD c2, c1, h1.len]) c4 ax m c dss.flatten (by rw [kBD d2, d1, h2.len]) d4 (by omega) hmax hlen
     have hB : Below w.heap.size w w' := (Below.refl _ _).grown r3 (Nat.le_refl _) (fun k h => by cases h)
     obtain ⟨av, cv, hv, _, _, _, hvb⟩ := kCA r2
     have hfr : ∀ q, v'.ownBlock = some q → w.heap.size ≤ q := fun q hq => by
      subst hv
      cases av with
      | none => cases hq
      | some b => obtain ⟨g, e, hg, _⟩ := hvb b rfl; subst e; cases hq; exact hg
     refine ⟨v', w', r1, ⟨css ++ dss, by simp [c1, d1], ?_, fun i x hx => ?_⟩, hB⟩
     · rw [List.flatten_append, List.length_append, h1.len, h2.len]
       exact r2
     · have keep : ∀ {cs : List Value} {y : α}, R.rd S w cs y → R.rd (fun k => S k ∧ v'.ownBlock ≠ some k) w' cs y := fun {cs y} hr => R.below (R.mono hr fun q hq hlt => ⟨hq, fun e => by have := hfr q e; omega⟩) hB
       rcases Nat.lt_or_ge i l1.length with q | q
       · rw [List.getElem?_append_left q] at hx
         obtain ⟨cs, e1, e2⟩ := c3 i x hx
         exact ⟨cs, by rw [List.getElem?_append_left (by omega)]; exact e1, keep e2⟩
       · rw [List.getElem?_append_right q] at hx
         obtain ⟨cs, e1, e2⟩ := d3 (i - l1.length) x hx
         exact ⟨cs, by rw [List.getElem?_append_right (by omega), c1]; exact e1, keep e2⟩
theorem kC4 {α : Type} {R : Rep α} {P : Program} {T E : TypeId} {bytes : Nat} (he : ElemOf P T E R.size bytes) {ops : Array Oper} {o : Oper} {a : Act} {K : Act → World → Prop} {Q : Exit → Act → World → Prop} {w : World} {C : Prop} (hgd : o.guard = none) (s x : Operand)
 (ho : o.op = .call { callee := .builtin .append, args := #[s, x], argTypes := #[T, T] }) {S : Blk} (as_ : Option Addr) (k : Nat) (l l' : List α) (hs : a.eval s = .slice as_ k k) (hl : Els R S w as_ k k l) (ao : Option Addr) (m c : Nat)
 (hx : a.eval x = .slice ao m c) (hy : Els R S w ao m c l') (hm : 0 < m) (hlen : (k + m) * bytes ≤ 140737488355328) (hmax : k + m ≤ maxLen)
 (h : ∀ v' w', Own R E S w' w.heap.size v' (l ++ l') → Below w.heap.size w w' → K (a.put o.dst v') w') : if Region.wanted o (yielded ops a.tmps) = true then Oper.wp P o a w K Q else C := by
 have hw : Region.wanted o (yielded ops a.tmps) = true := by simp [Region.wanted, hgd]
 rw [if_pos hw]; obtain ⟨v', w', h1, h2, h3⟩ := hl.run_full he o.type hy hm hlen hmax
 unfold Oper.wp
 simp [execOp, ho, resolve, invoke, builtin, hs, hx, h1, Result.andThen]
 exact h v' w' h2 h3
theorem kBY {α : Type} {R : Rep α} {P : Program} {T E : TypeId} {bytes : Nat} (he : ElemOf P T E R.size bytes) {ops : Array Oper} {o : Oper} {a : Act} {K : Act → World → Prop} {Q : Exit → Act → World → Prop} {w : World} {C : Prop} (hgd : o.guard = none) (s x : Operand)
 (ho : o.op = .call { callee := .builtin .append, args := #[s, x], argTypes := #[T, T] }) {S : Blk} (base : Nat) (v : Value) (l l' : List α) (hs : a.eval s = v) (hown : Own R E S w base v l) (ao : Option Addr) (m c : Nat)
 (hx : a.eval x = .slice ao m c) (hy : Els R (fun k => S k ∧ v.ownBlock ≠ some k) w ao m c l') (hlen : (l.length + m) * bytes ≤ 140737488355328) (hmax : l.length + m ≤ maxLen) (hbase : base ≤ w.heap.size)
 (h : ∀ v' w', Own R E S w' base v' (l ++ l') → Below base w w' → Kp v v' w w' → K (a.put o.dst v') w') : if Region.wanted o (yielded ops a.tmps) = true then Oper.wp P o a w K Q else C := by
 have hw : Region.wanted o (yielded ops a.tmps) = true := by simp [Region.wanted, hgd]
 rw [if_pos hw]; obtain ⟨v', w', h1, h2, h3, h4⟩ := hown.run_app he (l' := l') o.type ao m c hy.len hy.nil hy.at_ hlen hmax hbase
 unfold Oper.wp
 simp [execOp, ho, resolve, invoke, builtin, hs, hx, h1, Result.andThen]
 exact h v' w' h2 h3 h4
theorem Own.at1 {α : Type} {R : Rep α} {E : TypeId} {S : Blk} {w : World} {g base : Nat} {cs : List Value} {x : α} (h : w.heap[g]? = some (.cells cs.toArray E (0, 0))) (hb : base ≤ g) (hr : R.rd (fun q => S q ∧ q ≠ g) w cs x) : Own R E S w base (.slice (some ⟨g, 0, none⟩) 1 1) [x] := by
 have hl := R.len hr
 refine ⟨[cs], rfl, ⟨by simp [hl], .inr ⟨g, 1, cs.toArray, rfl, hb, h, Nat.le_refl _, by unfold maxLen; omega, by simp [hl], by simp [← hl]⟩⟩, fun i y hy => ?_⟩
 cases i with
 | zero => simp at hy; subst hy; exact ⟨cs, rfl, R.mono hr fun q hq _ => ⟨hq.1, fun e => hq.2 (by cases e; rfl)⟩⟩
 | succ i => simp at hy
theorem kEU (x : Lin) : ∀ (k : Nat) (out : List Lin), k ≤ out.length → (∀ j, j < k → kAZ (out.getD j default) x < 0) → (k = out.length ∨ 0 < kAZ (out.getD k default) x) → insU kAZ x out = out.take k ++ x :: out.drop k
 | 0, [], _, _, _ => rfl
 | 0, y :: out, _, _, h => by
   have h : 0 < kAZ y x := by rcases h with h | h; simp at h; simpa using h
   unfold insU
   rw [if_neg (by omega), if_neg (by omega)]; rfl
 | k + 1, [], h, _, _ => by simp at h
 | k + 1, y :: out, hk, h, hs => by
   have h0 := h 0 (by omega)
   have h0 : kAZ y x < 0 := by simpa using h0
   unfold insU
   rw [if_pos h0, kEU x k out (by simpa using hk) (fun j hj => by have := h (j + 1) (by omega); simpa using this) (by rcases hs with hs | hs; exact .inl (by simpa using hs); exact .inr (by simpa using hs))]
   rfl
theorem insU_same (x : Lin) : ∀ (k : Nat) (out : List Lin), k < out.length → (∀ j, j < k → kAZ (out.getD j default) x < 0) → kAZ (out.getD k default) x = 0 → insU kAZ x out = out
 | 0, y :: out, _, _, h => by
   have h : kAZ y x = 0 := by simpa using h
   unfold insU
   rw [if_neg (by omega), if_pos h]
 | k + 1, [], h, _, _ => by simp at h
 | 0, [], h, _, _ => by simp at h
 | k + 1, y :: out, hk, h, hs => by
   have h0 := h 0 (by omega)
   have h0 : kAZ y x < 0 := by simpa using h0
   unfold insU
   rw [if_pos h0, insU_same x k out (by simpa using hk) (fun j hj => by have := h (j + 1) (by omega); simpa using this) (by simpa using hs)]
theorem tidy_next {l : List Lin} {i : Nat} (h : i < l.length) : tidy (l.take (i + 1)) = if dropL (l.getD i default) then tidy (l.take i) else insU kAZ (l.getD i default) (tidy (l.take i)) := by
 unfold tidy tidyG
 rw [kAU h, List.foldl_append]; rfl
theorem kFM (W : World) (g og m co k : Nat) (hk : k ≤ co) : (Instr.slice 35 (.slice (some ⟨g, og, none⟩) m co) none (some (.int .i64 k)) (some (.int .i64 k))).run Tryz.prog W = .ok (.slice (some ⟨g, og, none⟩) k k) W := by
 have h1 : (Instr.sliceBounds true m co none (some (.int .i64 k)) (some (.int .i64 k))).run Tryz.prog W = .ok (0, k, k) W := by
  simp [Instr.sliceBounds, Instr.sliceBound, asIntOf, hk]
 obtain ⟨i0, z0, hi, hz, hs, hb, hzs⟩ := kBJ.parts
 simp only [Instr.slice, run_underlying underlying35, Sem.run_bind, Result.andThen_ok, h1, sizeOf, typeInfo]
 simp [hi, kG2]
theorem run_slice3n (W : World) : (Instr.slice 35 (.slice none 0 0) none (some (.int .i64 0)) (some (.int .i64 0))).run Tryz.prog W = .ok (.slice none 0 0) W := by
 have h1 : (Instr.sliceBounds true 0 0 none (some (.int .i64 0)) (some (.int .i64 0))).run Tryz.prog W = .ok (0, 0, 0) W := by
  simp [Instr.sliceBounds, Instr.sliceBound, asIntOf]
 obtain ⟨i0, z0, hi, hz, hs, hb, hzs⟩ := kBJ.parts
 simp only [Instr.slice, run_underlying underlying35, Sem.run_bind, Result.andThen_ok, h1, sizeOf, typeInfo]
 simp [hi]
theorem ref12_Tidy {S : Blk} (l : List Lin) (a : Option Addr) (n c : Nat) (w : World) (h : Sl RLin S w a n c l) (hn : n ≤ 100) :
 Calls Tryz.prog 32 #[.slice a n c] w fun e w' => (∃ v, e = .returned v ∧ Own RLin 65 (fun q => S q ∧ q < w.heap.size) w' w.heap.size v (tidy l)) ∧ Below w.heap.size w w' := by
 have HS : Hid (Sl RLin (fun q => S q ∧ q < w.heap.size) w a n c l) := hJ (h.mono fun q hq hlt => ⟨hq, hlt⟩)
 have hsm := h.small; have HN := hJ h.len; clear h
 go_enter func32, ntmps32
 go_wp2_with fail
 go_loopw [3, 4] (fun v iv wr => ∃ (i : Nat) (v0 : Value), i ≤ n ∧ iv = .int .i64 i ∧ v0 = v ∧ Hid (Own RLin 65 (fun q => S q ∧ q < w.heap.size) wr w.heap.size v (tidy (l.take i))) ∧ Hid ((tidy (l.take i)).length = 0 → v = .slice none 0 0) ∧ Below w.heap.size w wr) (fun _ iv _ => n - (intOf iv).toNat)
 case atStart => exact ⟨0, _, Nat.zero_le _, rfl, rfl, hJ (Own.nil _ _ _ _ _), hJ (fun _ => rfl), Below.refl _ _⟩
 case round =>
  obtain ⟨i, v0, hi, rfl, rfl, HO, HZ, hB⟩ := hrel; have hsz := hB.size
  by_cases hlt : i < n
  · obtain ⟨b, off, rfl, hbW, _⟩ := HS.out.form i hlt
    have hil : i < l.length := by rw [HN.out]; exact hlt
    obtain ⟨t, hr, ⟨ax, cx, rfl, hts⟩, e0, e1⟩ := (HS.out.below hB).lin i hlt; have HNx := hJ (tidy_next hil)
    have HTl : Hid ((tidy (l.take i)).length ≤ 100) := hJ (by have := tidy_len (l.take i); rw [List.length_take] at this; omega)
    clear hil
    generalize l.getD i default = x at *
    have HX := hJ hr
    have HD : Hid (dropL x = (x.terms.length == 0 && decide (0 ≤ x.const))) := hJ rfl
    have hxs := hts.small; clear hr hts
    generalize tidy (l.take i) = out at *
    obtain ⟨ao, m, co, hvs, hso⟩ : ∃ ao m co, v0 = .slice ao m co ∧ Sl RLin (fun q => (S q ∧ q < w.heap.size) ∨ w.heap.size ≤ q) wr ao m co out ∧ m = out.length ∧ Els RLin (fun q => S q ∧ q < w.heap.size) wr ao m co out := by
     obtain ⟨ao, co, e, hs⟩ := HO.out.sl; obtain ⟨_, _, e2, hs2⟩ := HO.out.els; rw [e] at e2; rw [Value.slice.injEq] at e2; obtain ⟨rfl, -, rfl⟩ := e2
     exact ⟨ao, _, co, e, hs, rfl, hs2.mono (fun k hk _ => hk.1)⟩
    subst hvs; have HOs := hJ hso.1; have HMl := hJ hso.2.1; have HEl := hJ hso.2.2; clear hso
    have hm : m ≤ 100 := by rw [HMl.out]; exact HTl.out
    by_cases h0 : x.terms.length = 0
    · by_cases hc : 0 ≤ x.const
      · have HF : Hid (tidy (l.take (i + 1)) = out) := hJ (by rw [HNx.out, if_pos (by rw [HD.out, h0, decide_eq_true hc]; rfl)])
        have hl0 : ((x.terms.length : Int) == 0) = true := by rw [h0]; rfl
        go_wp2_with fail
        go_roundw
        case rel => exact ⟨i + 1, _, by omega, by go_num, rfl, hJ (by rw [HF.out]; exact HO.out), hJ (by rw [HF.out]; exact HZ.out), hB⟩
        case measure => simp [intOf]; omega
      · have HF : Hid (tidy (l.take (i + 1)) = insU kAZ x out) := hJ (by rw [HNx.out, if_neg (by rw [HD.out, decide_eq_false hc]; simp)])
        have hl0 : ((x.terms.length : Int) == 0) = true := by rw [h0]; rfl
        clear HNx HD h0
        generalize hwq : wr = wq at *
        clear hwq
        go_wp2_with fail
        go_loopw [5] (fun kv wr => ∃ k : Nat, k ≤ m ∧ kv = .int .i64 k ∧ Hid (∀ j, j < k → kAZ (out.getD j default) x < 0) ∧ Below wq.heap.size wq wr) (fun kv _ => m - (intOf kv).toNat)
        case atStart => exact ⟨0, Nat.zero_le _, rfl, hJ (fun j hj => absurd hj (by omega)), Below.refl _ _⟩
        case round =>
         obtain ⟨k, hk, rfl, HT, hBq⟩ := hrel; have x0 := kAC e0 _ hBq; have x1 := kAC e1 _ hBq; have HXq := hJ (RLin.below HX.out hBq); have hzq := hBq.size; have HOq := hJ (HO.out.below hBq); have HEq := hJ (HEl.out.below hBq); have HB2 := hJ (hB.trans (hBq.mono hsz))
         by_cases hkm : k < m
         · obtain ⟨g, og, rfl, hgW, _⟩ := HOs.out.form k hkm
           obtain ⟨t, hry, ⟨ay, cy, rfl, hty⟩, c0, c1⟩ := (HOs.out.below hBq).lin k hkm
           have HTn := hJ (fun q => upto HT.out (p := fun j => kAZ (out.getD j default) x < 0) q)
           have hkl : k < out.length := by rw [← HMl.out]; exact hkm
           have HSame : Hid (kAZ (out.getD k default) x = 0 → insU kAZ x out = out) := hJ (fun q => insU_same x k out hkl HT.out q)
           have HKy : Hid (∀ q : 0 < kAZ (out.getD k default) x, k = out.length ∨ 0 < kAZ (out.getD k default) x) := hJ (fun q => .inr q)
           have HC := hJ (fun (t : Later wr) => kES (RLin.below hry t.b) (RLin.below HXq.out t.b))
           have HQ := hJ (fun (W : World) (hW : Below wr.heap.size wr W) (t : Later W) => kER (RLin.below (RLin.below hry hW) t.b) (RLin.below (RLin.below HXq.out hW) t.b))
           have hEq : kB3 (out.getD k default) x = (kAZ (out.getD k default) x == 0) := (eqLin_cmp _ _).symm
           rw [hEq] at HQ; clear hry hty hkl hEq; obtain ⟨y, hy⟩ : ∃ y, out.getD k default = y := ⟨_, rfl⟩; have HYe := hJ hy; rw [hy] at HC HQ c0 c1 HSame HKy HTn; clear hy; obtain ⟨r, hr⟩ : ∃ r, kAZ y x = r := ⟨_, rfl⟩; have HRe := hJ hr; rw [hr] at HC HQ HSame HKy HTn; clear hr
           have hkmz : (k : Int) < (m : Int) := by omega
           have C0 := Later.cell c0; have C1 := Later.cell c1; have X0 := Later.cell x0; have X1 := Later.cell x1
           by_cases hr : r < 0
           · have HTn2 := hJ (HTn.out hr)
             clear HSame HKy HQ HTn
             go_wp2_with fail
             refine kAB (by kernel_rfl) (by kernel_rfl) ?_
             repeat (go_big_quiet_step (first | fail | exact Later.call (HC.out _)))
             refine wpQuiet_nil ?_
             rintro _ ⟨t9, rfl⟩
             have HBz : Hid (Below wr.heap.size wr t9.w) := hJ t9.b
             generalize t9.w = wz at *
             go_wp2_with fail
             go_roundw
             case rel => exact ⟨k + 1, by omega, by go_num, HTn2, hBq.trans (HBz.out.mono hzq)⟩
             case measure => simp [intOf]; omega
           · have HKy2 := hJ (fun q : 0 < r => HKy.out q)
             clear HTn HKy
             go_wp2_with fail
             refine kAB (by kernel_rfl) (by kernel_rfl) ?_
             repeat (go_big_quiet_step (first | fail | exact Later.call (HC.out _)))
             refine wpQuiet_nil ?_
             rintro _ ⟨t9, rfl⟩
             have HBz : Hid (Below wr.heap.size wr t9.w) := hJ t9.b
             generalize t9.w = wz at *
             have c0 := kAC c0 _ HBz.out; have c1 := kAC c1 _ HBz.out; have x0 := kAC x0 _ HBz.out; have x1 := kAC x1 _ HBz.out; have HQz := hJ (HQ.out wz HBz.out); clear C0 C1 X0 X1 HC HQ; have C0 := Later.cell c0; have C1 := Later.cell c1; have X0 := Later.cell x0; have X1 := Later.cell x1
             by_cases h00 : r = 0
             · have HFs : Hid (tidy (l.take (i + 1)) = out) := hJ (by rw [HF.out, HSame.out h00])
               rw [show (r == 0) = true by simpa using h00] at HQz
               have h00' : r = 0 := h00
               go_wp2_with fail
               refine kAB (by kernel_rfl) (by kernel_rfl) ?_
               repeat (go_big_quiet_step (first | fail | exact Later.call (HQz.out _)))
               refine wpQuiet_nil ?_
               rintro _ ⟨t9, rfl⟩
               have HBy : Hid (Below wz.heap.size wz t9.w) := hJ t9.b
               generalize t9.w = wy at *
               go_wp2_with fail
               have HBf := hJ (HBz.out.trans (HBy.out.mono HBz.out.size))
               go_roundw
               case rel => exact ⟨i + 1, _, by omega, by go_num, rfl, hJ (by rw [HFs.out]; exact HOq.out.below HBf.out), hJ (by rw [HFs.out]; exact HZ.out), HB2.out.trans (HBf.out.mono HB2.out.size)⟩
               case measure => simp [intOf]; omega
             · have hr0 : 0 < r := by omega
               rw [show (r == 0) = false by simpa using h00] at HQz
               have HWhy : Hid (k = out.length ∨ 0 < kAZ (out.getD k default) x) := hJ (.inr (by rw [HYe.out, HRe.out]; exact hr0))
               go_wp2_with fail
               refine kAB (by kernel_rfl) (by kernel_rfl) ?_
               repeat (go_big_quiet_step (first | fail | exact Later.call (HQz.out _)))
               refine wpQuiet_nil ?_
               rintro _ ⟨t9, rfl⟩
               have HBy : Hid (Below wz.heap.size wz t9.w) := hJ t9.b
               generalize t9.w = wi at *
               have HBf := hJ (HBz.out.trans (HBy.out.mono HBz.out.size)); have HXi := hJ (RLin.below HXq.out HBf.out); have HEi := hJ (HEq.out.below HBf.out); have x0 := kAC x0 _ HBy.out; have x1 := kAC x1 _ HBy.out; have HBi := hJ (HB2.out.trans (HBf.out.mono HB2.out.size)); have hzi := HBi.out.size
               have hkc : ¬co = k := by have := HEi.out.cap; omega
               have HDr := hJ (HEi.out.drop k (by omega))
               clear C0 C1 X0 X1 HQz HSame
               have hs3 := fun W : World => kFM W g og m co k (by have := HEi.out.cap; omega)
               have HFk : Hid (tidy (l.take (i + 1)) = out.take k ++ x :: out.drop k) := hJ (by rw [HF.out]; exact kEU x k out (by rw [← HMl.out]; omega) HT.out HWhy.out)
               go_wp2_with fail
               go_region_held3 (fun w' => w'.cell? ⟨b, off + i * 2, none⟩ = some (.int .i64 x.const) ∧ w'.cell? ⟨b, off + i * 2 + 1, none⟩ = some (.slice ax x.terms.length cx)) (first | exact ⟨x0, x1⟩ | go_keep) (first
                | (refine kBY kBJ rfl (.tmp 68) (.tmp 71) rfl wi.heap.size _ [x] (out.drop k) rfl (S := fun q => S q ∧ q < w.heap.size) ?a1 _ _ _ rfl ?a2 ?a3 ?a4 ?a5 ?_
                   case a1 => exact Own.at1 (cs := [.int .i64 x.const, .slice ax x.terms.length cx]) (by (simp only [kAG, kAE, Array.getElem?_push, Array.size_push]; simp)) (by simp <;> omega) (RLin.below (RLin.mono HXi.out (fun q hq hlt => ⟨hq, by have := hq.2; have := HBi.out.size; simp; omega⟩)) (by go_grown))
                   case a2 => exact ((HDr.out.below (by go_grown)).mono (fun q hq hlt => ⟨hq, fun e => by have h2 := hq.2; have h3 := HBi.out.size; have h4 : wi.heap.size = q := Option.some.inj e; omega⟩))
                   case a3 => simp <;> omega
                   case a4 => unfold maxLen; simp <;> omega
                   case a5 => simp <;> omega
                   intro v4 w4 hown4 hb4 hk4
                   obtain ⟨a4, c4, rfl, hs4⟩ := hown4.els
                   have hB4 : Below wi.heap.size wi w4 := Below.trans (by go_grown) hb4
                   have x0 := kAC x0 _ hB4
                   have x1 := kAC x1 _ hB4)
                | (refine kC4 kBJ rfl (.tmp 63) (.tmp 72) rfl _ k (out.take k) ([x] ++ out.drop k) rfl ((HEi.out.full k (by omega)).below (by first | exact hB4 | exact hB4.drew)) _ _ _ rfl ((hs4.mono (fun q hq _ => hq.1)).below (by first | exact Below.refl _ _ | exact (Below.refl _ _).drew)) (by simp) (by have := HMl.out; simp; omega) (by have := HMl.out; unfold maxLen; simp; omega) ?_
                   intro v5 w5 hown5 hb5
                   have hB5 : Below wi.heap.size wi w5 := hB4.trans (hb5.mono (by have := hB4.size; simp <;> omega))
                   have x0 := kAC x0 _ hb5; have x1 := kAC x1 _ hb5
                   obtain ⟨a5, m5, c5, rfl⟩ := hown5.shape))
               all_goals go_wp2_with fail
               go_roundw
               case rel => exact ⟨i + 1, _, by omega, by go_num, rfl, hJ (by rw [HFk.out]; exact hown5.lower (by have h1 := hB4.size; have h2 := HBi.out.size; omega)), hJ (fun h => absurd h (by rw [HFk.out]; simp)), HBi.out.trans (hB5.mono HBi.out.size)⟩
               case measure => simp [intOf]; omega
         · have HKE : Hid (k = m) := hJ (by omega)
           have HWhy : Hid (k = out.length ∨ 0 < kAZ (out.getD k default) x) := hJ (.inl (by rw [HKE.out]; exact HMl.out))
           have hkmz : ¬ ((k : Int) < (m : Int)) := by omega
           go_wp2_with fail
           refine kAB (by kernel_rfl) (by kernel_rfl) ?_
           repeat (go_big_quiet_step (fail))
           refine wpQuiet_nil ?_
           rintro _ ⟨t9, rfl⟩
           have HBz0 : Hid (Below wr.heap.size wr t9.w) := hJ t9.b
           generalize t9.w = wz at *
           go_wp2_with fail
           refine kAB (by kernel_rfl) (by kernel_rfl) ?_
           repeat (go_big_quiet_step (fail))
           refine wpQuiet_nil ?_
           rintro _ ⟨t9, rfl⟩
           have HBz : Hid (Below wr.heap.size wr t9.w) := hJ (HBz0.out.trans (t9.b.mono HBz0.out.size))
           generalize t9.w = wi at *
           have x0 := kAC x0 _ HBz.out; have x1 := kAC x1 _ HBz.out; have HBi := hJ (HB2.out.trans (HBz.out.mono HB2.out.size)); have HXi := hJ (RLin.below HXq.out HBz.out); have HEi := hJ (HEq.out.below HBz.out); have hzi := HBi.out.size; clear HOq HX HEl HB2 HXq HEq
           rcases ao with _ | ad
           · have hco : co = 0 := HEi.out.nil rfl
             have hm0 : m = 0 := by have := HEi.out.cap; omega
             have hk0 : k = 0 := by have := HKE.out; omega
             clear HKE; subst hco; subst hm0; subst hk0
             have HDr : Hid (Els RLin (fun q => S q ∧ q < w.heap.size) wi none 0 0 (out.drop 0)) := hJ (by have h0 : out = [] := List.eq_nil_of_length_eq_zero HEi.out.len; rw [h0]; exact Els.none (by unfold maxLen; omega) (fun _ => rfl))
             have hs3 := fun W : World => run_slice3n W
             have HFk : Hid (tidy (l.take (i + 1)) = out.take 0 ++ x :: out.drop 0) := hJ (by rw [HF.out]; exact kEU x 0 out (by rw [← HMl.out]; omega) HT.out HWhy.out)
             go_wp2_with fail
             go_region_held3 (fun w' => w'.cell? ⟨b, off + i * 2, none⟩ = some (.int .i64 x.const) ∧ w'.cell? ⟨b, off + i * 2 + 1, none⟩ = some (.slice ax x.terms.length cx)) (first | exact ⟨x0, x1⟩ | go_keep) (first
              | (refine kBY kBJ rfl (.tmp 68) (.tmp 71) rfl wi.heap.size _ [x] (out.drop 0) rfl (S := fun q => S q ∧ q < w.heap.size) ?a1 _ _ _ rfl ?a2 ?a3 ?a4 ?a5 ?_
                 case a1 => exact Own.at1 (cs := [.int .i64 x.const, .slice ax x.terms.length cx]) (by (simp only [kAG, kAE, Array.getElem?_push, Array.size_push]; simp)) (by simp <;> omega) (RLin.below (RLin.mono HXi.out (fun q hq hlt => ⟨hq, by have := hq.2; have := HBi.out.size; simp; omega⟩)) (by go_grown))
                 case a2 => exact ((HDr.out.below (by go_grown)).mono (fun q hq hlt => ⟨hq, fun e => by have h2 := hq.2; have h3 := HBi.out.size; have h4 : wi.heap.size = q := Option.some.inj e; omega⟩))
                 case a3 => simp <;> omega
                 case a4 => unfold maxLen; simp <;> omega
                 case a5 => simp <;> omega
                 intro v4 w4 hown4 hb4 hk4
                 obtain ⟨a4, c4, rfl, hs4⟩ := hown4.els
                 have hB4 : Below wi.heap.size wi w4 := Below.trans (by go_grown) hb4
                 have x0 := kAC x0 _ hB4
                 have x1 := kAC x1 _ hB4)
              | (refine kC4 kBJ rfl (.tmp 63) (.tmp 72) rfl _ 0 (out.take 0) ([x] ++ out.drop 0) rfl ((HEi.out.full 0 (by omega)).below (by first | exact hB4 | exact hB4.drew)) _ _ _ rfl ((hs4.mono (fun q hq _ => hq.1)).below (by first | exact Below.refl _ _ | exact (Below.refl _ _).drew)) (by simp) (by have := HMl.out; simp; omega) (by have := HMl.out; unfold maxLen; simp; omega) ?_
                 intro v5 w5 hown5 hb5
                 have hB5 : Below wi.heap.size wi w5 := hB4.trans (hb5.mono (by have := hB4.size; simp <;> omega))
                 have x0 := kAC x0 _ hb5; have x1 := kAC x1 _ hb5
                 obtain ⟨a5, m5, c5, rfl⟩ := hown5.shape))
             all_goals go_wp2_with fail
             go_roundw
             case rel => exact ⟨i + 1, _, by omega, by go_num, rfl, hJ (by rw [HFk.out]; exact hown5.lower (by have h1 := hB4.size; have h2 := HBi.out.size; omega)), hJ (fun h => absurd h (by rw [HFk.out]; simp)), HBi.out.trans (hB5.mono HBi.out.size)⟩
             case measure => simp [intOf]; omega
           · obtain ⟨g, og, rfl⟩ : ∃ g og, ad = ⟨g, og, none⟩ := by
              rcases Nat.eq_zero_or_pos m with h | h
              · have := HZ.out (by rw [← HMl.out]; exact h)
                cases this
              · obtain ⟨g, og, e, _⟩ := HOs.out.form 0 h
                cases e
                exact ⟨_, _, rfl⟩
             have HDa : Hid (∀ a, a ≠ none → Els RLin (fun q => S q ∧ q < w.heap.size) wi a (m - k) (co - k) (out.drop k)) := hJ (fun a ha => by have h1 := HEi.out.max; rw [HKE.out, Nat.sub_self, List.drop_of_length_le (by rw [HMl.out]; omega)]; exact Els.none (by omega) (fun e => absurd e ha))
             have hs3 := fun W : World => kFM W g og m co k (by have := HEi.out.cap; omega)
             clear hkmz
             by_cases hkc : co = k
             · subst hkc
               have HDr : Hid (Els RLin (fun q => S q ∧ q < w.heap.size) wi (some ⟨g, og, none⟩) (m - co) 0 (out.drop co)) := hJ (by have h := HDa.out (some ⟨g, og, none⟩) (by simp); rwa [Nat.sub_self] at h)
               have HFk : Hid (tidy (l.take (i + 1)) = out.take co ++ x :: out.drop co) := hJ (by rw [HF.out]; exact kEU x co out (by rw [← HMl.out]; omega) HT.out HWhy.out)
               go_wp2_with fail
               go_region_held3 (fun w' => w'.cell? ⟨b, off + i * 2, none⟩ = some (.int .i64 x.const) ∧ w'.cell? ⟨b, off + i * 2 + 1, none⟩ = some (.slice ax x.terms.length cx)) (first | exact ⟨x0, x1⟩ | go_keep) (first
                | (refine kBY kBJ rfl (.tmp 68) (.tmp 71) rfl wi.heap.size _ [x] (out.drop co) rfl (S := fun q => S q ∧ q < w.heap.size) ?a1 _ _ _ rfl ?a2 ?a3 ?a4 ?a5 ?_
                   case a1 => exact Own.at1 (cs := [.int .i64 x.const, .slice ax x.terms.length cx]) (by (simp only [kAG, kAE, Array.getElem?_push, Array.size_push]; simp)) (by simp <;> omega) (RLin.below (RLin.mono HXi.out (fun q hq hlt => ⟨hq, by have := hq.2; have := HBi.out.size; simp; omega⟩)) (by go_grown))
                   case a2 => exact ((HDr.out.below (by go_grown)).mono (fun q hq hlt => ⟨hq, fun e => by have h2 := hq.2; have h3 := HBi.out.size; have h4 : wi.heap.size = q := Option.some.inj e; omega⟩))
                   case a3 => simp <;> omega
                   case a4 => unfold maxLen; simp <;> omega
                   case a5 => simp <;> omega
                   intro v4 w4 hown4 hb4 hk4
                   obtain ⟨a4, c4, rfl, hs4⟩ := hown4.els
                   have hB4 : Below wi.heap.size wi w4 := Below.trans (by go_grown) hb4
                   have x0 := kAC x0 _ hB4
                   have x1 := kAC x1 _ hB4)
                | (refine kC4 kBJ rfl (.tmp 63) (.tmp 72) rfl _ co (out.take co) ([x] ++ out.drop co) rfl ((HEi.out.full co (by omega)).below (by first | exact hB4 | exact hB4.drew)) _ _ _ rfl ((hs4.mono (fun q hq _ => hq.1)).below (by first | exact Below.refl _ _ | exact (Below.refl _ _).drew)) (by simp) (by have := HMl.out; simp; omega) (by have := HMl.out; unfold maxLen; simp; omega) ?_
                   intro v5 w5 hown5 hb5
                   have hB5 : Below wi.heap.size wi w5 := hB4.trans (hb5.mono (by have := hB4.size; simp <;> omega))
                   have x0 := kAC x0 _ hb5; have x1 := kAC x1 _ hb5
                   obtain ⟨a5, m5, c5, rfl⟩ := hown5.shape))
               all_goals go_wp2_with fail
               go_roundw
               case rel => exact ⟨i + 1, _, by omega, by go_num, rfl, hJ (by rw [HFk.out]; exact hown5.lower (by have h1 := hB4.size; have h2 := HBi.out.size; omega)), hJ (fun h => absurd h (by rw [HFk.out]; simp)), HBi.out.trans (hB5.mono HBi.out.size)⟩
               case measure => simp [intOf]; omega
             · have HDr := hJ (HDa.out (some ⟨g, og + k * 2, none⟩) (by simp))
               have HFk : Hid (tidy (l.take (i + 1)) = out.take k ++ x :: out.drop k) := hJ (by rw [HF.out]; exact kEU x k out (by rw [← HMl.out]; omega) HT.out HWhy.out)
               go_wp2_with fail
               go_region_held3 (fun w' => w'.cell? ⟨b, off + i * 2, none⟩ = some (.int .i64 x.const) ∧ w'.cell? ⟨b, off + i * 2 + 1, none⟩ = some (.slice ax x.terms.length cx)) (first | exact ⟨x0, x1⟩ | go_keep) (first
                | (refine kBY kBJ rfl (.tmp 68) (.tmp 71) rfl wi.heap.size _ [x] (out.drop k) rfl (S := fun q => S q ∧ q < w.heap.size) ?a1 _ _ _ rfl ?a2 ?a3 ?a4 ?a5 ?_
                   case a1 => exact Own.at1 (cs := [.int .i64 x.const, .slice ax x.terms.length cx]) (by (simp only [kAG, kAE, Array.getElem?_push, Array.size_push]; simp)) (by simp <;> omega) (RLin.below (RLin.mono HXi.out (fun q hq hlt => ⟨hq, by have := hq.2; have := HBi.out.size; simp; omega⟩)) (by go_grown))
                   case a2 => exact ((HDr.out.below (by go_grown)).mono (fun q hq hlt => ⟨hq, fun e => by have h2 := hq.2; have h3 := HBi.out.size; have h4 : wi.heap.size = q := Option.some.inj e; omega⟩))
                   case a3 => simp <;> omega
                   case a4 => unfold maxLen; simp <;> omega
                   case a5 => simp <;> omega
                   intro v4 w4 hown4 hb4 hk4
                   obtain ⟨a4, c4, rfl, hs4⟩ := hown4.els
                   have hB4 : Below wi.heap.size wi w4 := Below.trans (by go_grown) hb4
                   have x0 := kAC x0 _ hB4
                   have x1 := kAC x1 _ hB4)
                | (refine kC4 kBJ rfl (.tmp 63) (.tmp 72) rfl _ k (out.take k) ([x] ++ out.drop k) rfl ((HEi.out.full k (by omega)).below (by first | exact hB4 | exact hB4.drew)) _ _ _ rfl ((hs4.mono (fun q hq _ => hq.1)).below (by first | exact Below.refl _ _ | exact (Below.refl _ _).drew)) (by simp) (by have := HMl.out; simp; omega) (by have := HMl.out; unfold maxLen; simp; omega) ?_
                   intro v5 w5 hown5 hb5
                   have hB5 : Below wi.heap.size wi w5 := hB4.trans (hb5.mono (by have := hB4.size; simp <;> omega))
                   have x0 := kAC x0 _ hb5; have x1 := kAC x1 _ hb5
                   obtain ⟨a5, m5, c5, rfl⟩ := hown5.shape))
               all_goals go_wp2_with fail
               go_roundw
               case rel => exact ⟨i + 1, _, by omega, by go_num, rfl, hJ (by rw [HFk.out]; exact hown5.lower (by have h1 := hB4.size; have h2 := HBi.out.size; omega)), hJ (fun h => absurd h (by rw [HFk.out]; simp)), HBi.out.trans (hB5.mono HBi.out.size)⟩
               case measure => simp [intOf]; omega
    · have HF : Hid (tidy (l.take (i + 1)) = insU kAZ x out) := hJ (by rw [HNx.out, if_neg (by rw [HD.out]; simp [h0])])
      have hl0 : ((x.terms.length : Int) == 0) = false := beq_eq_false_iff_ne.2 (by omega)
      clear HNx HD h0
      generalize hwq : wr = wq at *
      clear hwq
      go_wp2_with fail
      go_loopw [5] (fun kv wr => ∃ k : Nat, k ≤ m ∧ kv = .int .i64 k ∧ Hid (∀ j, j < k → kAZ (out.getD j default) x < 0) ∧ Below wq.heap.size wq wr) (fun kv _ => m - (intOf kv).toNat)
      case atStart => exact ⟨0, Nat.zero_le _, rfl, hJ (fun j hj => absurd hj (by omega)), Below.refl _ _⟩
      case round =>
       obtain ⟨k, hk, rfl, HT, hBq⟩ := hrel; have x0 := kAC e0 _ hBq; have x1 := kAC e1 _ hBq; have HXq := hJ (RLin.below HX.out hBq); have hzq := hBq.size; have HOq := hJ (HO.out.below hBq); have HEq := hJ (HEl.out.below hBq); have HB2 := hJ (hB.trans (hBq.mono hsz))
       by_cases hkm : k < m
       · obtain ⟨g, og, rfl, hgW, _⟩ := HOs.out.form k hkm
         obtain ⟨t, hry, ⟨ay, cy, rfl, hty⟩, c0, c1⟩ := (HOs.out.below hBq).lin k hkm
         have HTn := hJ (fun q => upto HT.out (p := fun j => kAZ (out.getD j default) x < 0) q)
         have hkl : k < out.length := by rw [← HMl.out]; exact hkm
         have HSame : Hid (kAZ (out.getD k default) x = 0 → insU kAZ x out = out) := hJ (fun q => insU_same x k out hkl HT.out q)
         have HKy : Hid (∀ q : 0 < kAZ (out.getD k default) x, k = out.length ∨ 0 < kAZ (out.getD k default) x) := hJ (fun q => .inr q)
         have HC := hJ (fun (t : Later wr) => kES (RLin.below hry t.b) (RLin.below HXq.out t.b))
         have HQ := hJ (fun (W : World) (hW : Below wr.heap.size wr W) (t : Later W) => kER (RLin.below (RLin.below hry hW) t.b) (RLin.below (RLin.below HXq.out hW) t.b))
         have hEq : kB3 (out.getD k default) x = (kAZ (out.getD k default) x == 0) := (eqLin_cmp _ _).symm
         rw [hEq] at HQ; clear hry hty hkl hEq; obtain ⟨y, hy⟩ : ∃ y, out.getD k default = y := ⟨_, rfl⟩; have HYe := hJ hy; rw [hy] at HC HQ c0 c1 HSame HKy HTn; clear hy; obtain ⟨r, hr⟩ : ∃ r, kAZ y x = r := ⟨_, rfl⟩; have HRe := hJ hr; rw [hr] at HC HQ HSame HKy HTn; clear hr
         have hkmz : (k : Int) < (m : Int) := by omega
         have C0 := Later.cell c0; have C1 := Later.cell c1; have X0 := Later.cell x0; have X1 := Later.cell x1
         by_cases hr : r < 0
         · have HTn2 := hJ (HTn.out hr)
           clear HSame HKy HQ HTn
           go_wp2_with fail
           refine kAB (by kernel_rfl) (by kernel_rfl) ?_
           repeat (go_big_quiet_step (first | fail | exact Later.call (HC.out _)))
           refine wpQuiet_nil ?_
           rintro _ ⟨t9, rfl⟩
           have HBz : Hid (Below wr.heap.size wr t9.w) := hJ t9.b
           generalize t9.w = wz at *
           go_wp2_with fail
           go_roundw
           case rel => exact ⟨k + 1, by omega, by go_num, HTn2, hBq.trans (HBz.out.mono hzq)⟩
           case measure => simp [intOf]; omega
         · have HKy2 := hJ (fun q : 0 < r => HKy.out q)
           clear HTn HKy
           go_wp2_with fail
           refine kAB (by kernel_rfl) (by kernel_rfl) ?_
           repeat (go_big_quiet_step (first | fail | exact Later.call (HC.out _)))
           refine wpQuiet_nil ?_
           rintro _ ⟨t9, rfl⟩
           have HBz : Hid (Below wr.heap.size wr t9.w) := hJ t9.b
           generalize t9.w = wz at *
           have c0 := kAC c0 _ HBz.out; have c1 := kAC c1 _ HBz.out; have x0 := kAC x0 _ HBz.out; have x1 := kAC x1 _ HBz.out; have HQz := hJ (HQ.out wz HBz.out); clear C0 C1 X0 X1 HC HQ; have C0 := Later.cell c0; have C1 := Later.cell c1; have X0 := Later.cell x0; have X1 := Later.cell x1
           by_cases h00 : r = 0
           · have HFs : Hid (tidy (l.take (i + 1)) = out) := hJ (by rw [HF.out, HSame.out h00])
             rw [show (r == 0) = true by simpa using h00] at HQz
             have h00' : r = 0 := h00
             go_wp2_with fail
             refine kAB (by kernel_rfl) (by kernel_rfl) ?_
             repeat (go_big_quiet_step (first | fail | exact Later.call (HQz.out _)))
             refine wpQuiet_nil ?_
             rintro _ ⟨t9, rfl⟩
             have HBy : Hid (Below wz.heap.size wz t9.w) := hJ t9.b
             generalize t9.w = wy at *
             go_wp2_with fail
             have HBf := hJ (HBz.out.trans (HBy.out.mono HBz.out.size))
             go_roundw
             case rel => exact ⟨i + 1, _, by omega, by go_num, rfl, hJ (by rw [HFs.out]; exact HOq.out.below HBf.out), hJ (by rw [HFs.out]; exact HZ.out), HB2.out.trans (HBf.out.mono HB2.out.size)⟩
             case measure => simp [intOf]; omega
           · have hr0 : 0 < r := by omega
             rw [show (r == 0) = false by simpa using h00] at HQz
             have HWhy : Hid (k = out.length ∨ 0 < kAZ (out.getD k default) x) := hJ (.inr (by rw [HYe.out, HRe.out]; exact hr0))
             go_wp2_with fail
             refine kAB (by kernel_rfl) (by kernel_rfl) ?_
             repeat (go_big_quiet_step (first | fail | exact Later.call (HQz.out _)))
             refine wpQuiet_nil ?_
             rintro _ ⟨t9, rfl⟩
             have HBy : Hid (Below wz.heap.size wz t9.w) := hJ t9.b
             generalize t9.w = wi at *
             have HBf := hJ (HBz.out.trans (HBy.out.mono HBz.out.size)); have HXi := hJ (RLin.below HXq.out HBf.out); have HEi := hJ (HEq.out.below HBf.out); have x0 := kAC x0 _ HBy.out; have x1 := kAC x1 _ HBy.out; have HBi := hJ (HB2.out.trans (HBf.out.mono HB2.out.size)); have hzi := HBi.out.size
             have hkc : ¬co = k := by have := HEi.out.cap; omega
             have HDr := hJ (HEi.out.drop k (by omega))
             clear C0 C1 X0 X1 HQz HSame
             have hs3 := fun W : World => kFM W g og m co k (by have := HEi.out.cap; omega)
             have HFk : Hid (tidy (l.take (i + 1)) = out.take k ++ x :: out.drop k) := hJ (by rw [HF.out]; exact kEU x k out (by rw [← HMl.out]; omega) HT.out HWhy.out)
             go_wp2_with fail
             go_region_held3 (fun w' => w'.cell? ⟨b, off + i * 2, none⟩ = some (.int .i64 x.const) ∧ w'.cell? ⟨b, off + i * 2 + 1, none⟩ = some (.slice ax x.terms.length cx)) (first | exact ⟨x0, x1⟩ | go_keep) (first
              | (refine kBY kBJ rfl (.tmp 68) (.tmp 71) rfl wi.heap.size _ [x] (out.drop k) rfl (S := fun q => S q ∧ q < w.heap.size) ?a1 _ _ _ rfl ?a2 ?a3 ?a4 ?a5 ?_
                 case a1 => exact Own.at1 (cs := [.int .i64 x.const, .slice ax x.terms.length cx]) (by (simp only [kAG, kAE, Array.getElem?_push, Array.size_push]; simp)) (by simp <;> omega) (RLin.below (RLin.mono HXi.out (fun q hq hlt => ⟨hq, by have := hq.2; have := HBi.out.size; simp; omega⟩)) (by go_grown))
                 case a2 => exact ((HDr.out.below (by go_grown)).mono (fun q hq hlt => ⟨hq, fun e => by have h2 := hq.2; have h3 := HBi.out.size; have h4 : wi.heap.size = q := Option.some.inj e; omega⟩))
                 case a3 => simp <;> omega
                 case a4 => unfold maxLen; simp <;> omega
                 case a5 => simp <;> omega
                 intro v4 w4 hown4 hb4 hk4
                 obtain ⟨a4, c4, rfl, hs4⟩ := hown4.els
                 have hB4 : Below wi.heap.size wi w4 := Below.trans (by go_grown) hb4
                 have x0 := kAC x0 _ hB4
                 have x1 := kAC x1 _ hB4)
              | (refine kC4 kBJ rfl (.tmp 63) (.tmp 72) rfl _ k (out.take k) ([x] ++ out.drop k) rfl ((HEi.out.full k (by omega)).below (by first | exact hB4 | exact hB4.drew)) _ _ _ rfl ((hs4.mono (fun q hq _ => hq.1)).below (by first | exact Below.refl _ _ | exact (Below.refl _ _).drew)) (by simp) (by have := HMl.out; simp; omega) (by have := HMl.out; unfold maxLen; simp; omega) ?_
                 intro v5 w5 hown5 hb5
                 have hB5 : Below wi.heap.size wi w5 := hB4.trans (hb5.mono (by have := hB4.size; simp <;> omega))
                 have x0 := kAC x0 _ hb5; have x1 := kAC x1 _ hb5
                 obtain ⟨a5, m5, c5, rfl⟩ := hown5.shape))
             all_goals go_wp2_with fail
             go_roundw
             case rel => exact ⟨i + 1, _, by omega, by go_num, rfl, hJ (by rw [HFk.out]; exact hown5.lower (by have h1 := hB4.size; have h2 := HBi.out.size; omega)), hJ (fun h => absurd h (by rw [HFk.out]; simp)), HBi.out.trans (hB5.mono HBi.out.size)⟩
             case measure => simp [intOf]; omega
       · have HKE : Hid (k = m) := hJ (by omega)
         have HWhy : Hid (k = out.length ∨ 0 < kAZ (out.getD k default) x) := hJ (.inl (by rw [HKE.out]; exact HMl.out))
         have hkmz : ¬ ((k : Int) < (m : Int)) := by omega
         go_wp2_with fail
         refine kAB (by kernel_rfl) (by kernel_rfl) ?_
         repeat (go_big_quiet_step (fail))
         refine wpQuiet_nil ?_
         rintro _ ⟨t9, rfl⟩
         have HBz0 : Hid (Below wr.heap.size wr t9.w) := hJ t9.b
         generalize t9.w = wz at *
         go_wp2_with fail
         refine kAB (by kernel_rfl) (by kernel_rfl) ?_
         repeat (go_big_quiet_step (fail))
         refine wpQuiet_nil ?_
         rintro _ ⟨t9, rfl⟩
         have HBz : Hid (Below wr.heap.size wr t9.w) := hJ (HBz0.out.trans (t9.b.mono HBz0.out.size))
         generalize t9.w = wi at *
         have x0 := kAC x0 _ HBz.out; have x1 := kAC x1 _ HBz.out; have HBi := hJ (HB2.out.trans (HBz.out.mono HB2.out.size)); have HXi := hJ (RLin.below HXq.out HBz.out); have HEi := hJ (HEq.out.below HBz.out); have hzi := HBi.out.size; clear HOq HX HEl HB2 HXq HEq
         rcases ao with _ | ad
         · have hco : co = 0 := HEi.out.nil rfl
           have hm0 : m = 0 := by have := HEi.out.cap; omega
           have hk0 : k = 0 := by have := HKE.out; omega
           clear HKE; subst hco; subst hm0; subst hk0
           have HDr : Hid (Els RLin (fun q => S q ∧ q < w.heap.size) wi none 0 0 (out.drop 0)) := hJ (by have h0 : out = [] := List.eq_nil_of_length_eq_zero HEi.out.len; rw [h0]; exact Els.none (by unfold maxLen; omega) (fun _ => rfl))
           have hs3 := fun W : World => run_slice3n W
           have HFk : Hid (tidy (l.take (i + 1)) = out.take 0 ++ x :: out.drop 0) := hJ (by rw [HF.out]; exact kEU x 0 out (by rw [← HMl.out]; omega) HT.out HWhy.out)
           go_wp2_with fail
           go_region_held3 (fun w' => w'.cell? ⟨b, off + i * 2, none⟩ = some (.int .i64 x.const) ∧ w'.cell? ⟨b, off + i * 2 + 1, none⟩ = some (.slice ax x.terms.length cx)) (first | exact ⟨x0, x1⟩ | go_keep) (first
            | (refine kBY kBJ rfl (.tmp 68) (.tmp 71) rfl wi.heap.size _ [x] (out.drop 0) rfl (S := fun q => S q ∧ q < w.heap.size) ?a1 _ _ _ rfl ?a2 ?a3 ?a4 ?a5 ?_
               case a1 => exact Own.at1 (cs := [.int .i64 x.const, .slice ax x.terms.length cx]) (by (simp only [kAG, kAE, Array.getElem?_push, Array.size_push]; simp)) (by simp <;> omega) (RLin.below (RLin.mono HXi.out (fun q hq hlt => ⟨hq, by have := hq.2; have := HBi.out.size; simp; omega⟩)) (by go_grown))
               case a2 => exact ((HDr.out.below (by go_grown)).mono (fun q hq hlt => ⟨hq, fun e => by have h2 := hq.2; have h3 := HBi.out.size; have h4 : wi.heap.size = q := Option.some.inj e; omega⟩))
               case a3 => simp <;> omega
               case a4 => unfold maxLen; simp <;> omega
               case a5 => simp <;> omega
               intro v4 w4 hown4 hb4 hk4
               obtain ⟨a4, c4, rfl, hs4⟩ := hown4.els
               have hB4 : Below wi.heap.size wi w4 := Below.trans (by go_grown) hb4
               have x0 := kAC x0 _ hB4
               have x1 := kAC x1 _ hB4)
            | (refine kC4 kBJ rfl (.tmp 63) (.tmp 72) rfl _ 0 (out.take 0) ([x] ++ out.drop 0) rfl ((HEi.out.full 0 (by omega)).below (by first | exact hB4 | exact hB4.drew)) _ _ _ rfl ((hs4.mono (fun q hq _ => hq.1)).below (by first | exact Below.refl _ _ | exact (Below.refl _ _).drew)) (by simp) (by have := HMl.out; simp; omega) (by have := HMl.out; unfold maxLen; simp; omega) ?_
               intro v5 w5 hown5 hb5
               have hB5 : Below wi.heap.size wi w5 := hB4.trans (hb5.mono (by have := hB4.size; simp <;> omega))
               have x0 := kAC x0 _ hb5; have x1 := kAC x1 _ hb5
               obtain ⟨a5, m5, c5, rfl⟩ := hown5.shape))
           all_goals go_wp2_with fail
           go_roundw
           case rel => exact ⟨i + 1, _, by omega, by go_num, rfl, hJ (by rw [HFk.out]; exact hown5.lower (by have h1 := hB4.size; have h2 := HBi.out.size; omega)), hJ (fun h => absurd h (by rw [HFk.out]; simp)), HBi.out.trans (hB5.mono HBi.out.size)⟩
           case measure => simp [intOf]; omega
         · obtain ⟨g, og, rfl⟩ : ∃ g og, ad = ⟨g, og, none⟩ := by
            rcases Nat.eq_zero_or_pos m with h | h
            · have := HZ.out (by rw [← HMl.out]; exact h)
              cases this
            · obtain ⟨g, og, e, _⟩ := HOs.out.form 0 h
              cases e
              exact ⟨_, _, rfl⟩
           have HDa : Hid (∀ a, a ≠ none → Els RLin (fun q => S q ∧ q < w.heap.size) wi a (m - k) (co - k) (out.drop k)) := hJ (fun a ha => by have h1 := HEi.out.max; rw [HKE.out, Nat.sub_self, List.drop_of_length_le (by rw [HMl.out]; omega)]; exact Els.none (by omega) (fun e => absurd e ha))
           have hs3 := fun W : World => kFM W g og m co k (by have := HEi.out.cap; omega)
           clear hkmz
           by_cases hkc : co = k
           · subst hkc
             have HDr : Hid (Els RLin (fun q => S q ∧ q < w.heap.size) wi (some ⟨g, og, none⟩) (m - co) 0 (out.drop co)) := hJ (by have h := HDa.out (some ⟨g, og, none⟩) (by simp); rwa [Nat.sub_self] at h)
             have HFk : Hid (tidy (l.take (i + 1)) = out.take co ++ x :: out.drop co) := hJ (by rw [HF.out]; exact kEU x co out (by rw [← HMl.out]; omega) HT.out HWhy.out)
             go_wp2_with fail
             go_region_held3 (fun w' => w'.cell? ⟨b, off + i * 2, none⟩ = some (.int .i64 x.const) ∧ w'.cell? ⟨b, off + i * 2 + 1, none⟩ = some (.slice ax x.terms.length cx)) (first | exact ⟨x0, x1⟩ | go_keep) (first
              | (refine kBY kBJ rfl (.tmp 68) (.tmp 71) rfl wi.heap.size _ [x] (out.drop co) rfl (S := fun q => S q ∧ q < w.heap.size) ?a1 _ _ _ rfl ?a2 ?a3 ?a4 ?a5 ?_
                 case a1 => exact Own.at1 (cs := [.int .i64 x.const, .slice ax x.terms.length cx]) (by (simp only [kAG, kAE, Array.getElem?_push, Array.size_push]; simp)) (by simp <;> omega) (RLin.below (RLin.mono HXi.out (fun q hq hlt => ⟨hq, by have := hq.2; have := HBi.out.size; simp; omega⟩)) (by go_grown))
                 case a2 => exact ((HDr.out.below (by go_grown)).mono (fun q hq hlt => ⟨hq, fun e => by have h2 := hq.2; have h3 := HBi.out.size; have h4 : wi.heap.size = q := Option.some.inj e; omega⟩))
                 case a3 => simp <;> omega
                 case a4 => unfold maxLen; simp <;> omega
                 case a5 => simp <;> omega
                 intro v4 w4 hown4 hb4 hk4
                 obtain ⟨a4, c4, rfl, hs4⟩ := hown4.els
                 have hB4 : Below wi.heap.size wi w4 := Below.trans (by go_grown) hb4
                 have x0 := kAC x0 _ hB4
                 have x1 := kAC x1 _ hB4)
              | (refine kC4 kBJ rfl (.tmp 63) (.tmp 72) rfl _ co (out.take co) ([x] ++ out.drop co) rfl ((HEi.out.full co (by omega)).below (by first | exact hB4 | exact hB4.drew)) _ _ _ rfl ((hs4.mono (fun q hq _ => hq.1)).below (by first | exact Below.refl _ _ | exact (Below.refl _ _).drew)) (by simp) (by have := HMl.out; simp; omega) (by have := HMl.out; unfold maxLen; simp; omega) ?_
                 intro v5 w5 hown5 hb5
                 have hB5 : Below wi.heap.size wi w5 := hB4.trans (hb5.mono (by have := hB4.size; simp <;> omega))
                 have x0 := kAC x0 _ hb5; have x1 := kAC x1 _ hb5
                 obtain ⟨a5, m5, c5, rfl⟩ := hown5.shape))
             all_goals go_wp2_with fail
             go_roundw
             case rel => exact ⟨i + 1, _, by omega, by go_num, rfl, hJ (by rw [HFk.out]; exact hown5.lower (by have h1 := hB4.size; have h2 := HBi.out.size; omega)), hJ (fun h => absurd h (by rw [HFk.out]; simp)), HBi.out.trans (hB5.mono HBi.out.size)⟩
             case measure => simp [intOf]; omega
           · have HDr := hJ (HDa.out (some ⟨g, og + k * 2, none⟩) (by simp))
             have HFk : Hid (tidy (l.take (i + 1)) = out.take k ++ x :: out.drop k) := hJ (by rw [HF.out]; exact kEU x k out (by rw [← HMl.out]; omega) HT.out HWhy.out)
             go_wp2_with fail
             go_region_held3 (fun w' => w'.cell? ⟨b, off + i * 2, none⟩ = some (.int .i64 x.const) ∧ w'.cell? ⟨b, off + i * 2 + 1, none⟩ = some (.slice ax x.terms.length cx)) (first | exact ⟨x0, x1⟩ | go_keep) (first
              | (refine kBY kBJ rfl (.tmp 68) (.tmp 71) rfl wi.heap.size _ [x] (out.drop k) rfl (S := fun q => S q ∧ q < w.heap.size) ?a1 _ _ _ rfl ?a2 ?a3 ?a4 ?a5 ?_
                 case a1 => exact Own.at1 (cs := [.int .i64 x.const, .slice ax x.terms.length cx]) (by (simp only [kAG, kAE, Array.getElem?_push, Array.size_push]; simp)) (by simp <;> omega) (RLin.below (RLin.mono HXi.out (fun q hq hlt => ⟨hq, by have := hq.2; have := HBi.out.size; simp; omega⟩)) (by go_grown))
                 case a2 => exact ((HDr.out.below (by go_grown)).mono (fun q hq hlt => ⟨hq, fun e => by have h2 := hq.2; have h3 := HBi.out.size; have h4 : wi.heap.size = q := Option.some.inj e; omega⟩))
                 case a3 => simp <;> omega
                 case a4 => unfold maxLen; simp <;> omega
                 case a5 => simp <;> omega
                 intro v4 w4 hown4 hb4 hk4
                 obtain ⟨a4, c4, rfl, hs4⟩ := hown4.els
                 have hB4 : Below wi.heap.size wi w4 := Below.trans (by go_grown) hb4
                 have x0 := kAC x0 _ hB4
                 have x1 := kAC x1 _ hB4)
              | (refine kC4 kBJ rfl (.tmp 63) (.tmp 72) rfl _ k (out.take k) ([x] ++ out.drop k) rfl ((HEi.out.full k (by omega)).below (by first | exact hB4 | exact hB4.drew)) _ _ _ rfl ((hs4.mono (fun q hq _ => hq.1)).below (by first | exact Below.refl _ _ | exact (Below.refl _ _).drew)) (by simp) (by have := HMl.out; simp; omega) (by have := HMl.out; unfold maxLen; simp; omega) ?_
                 intro v5 w5 hown5 hb5
                 have hB5 : Below wi.heap.size wi w5 := hB4.trans (hb5.mono (by have := hB4.size; simp <;> omega))
                 have x0 := kAC x0 _ hb5; have x1 := kAC x1 _ hb5
                 obtain ⟨a5, m5, c5, rfl⟩ := hown5.shape))
             all_goals go_wp2_with fail
             go_roundw
             case rel => exact ⟨i + 1, _, by omega, by go_num, rfl, hJ (by rw [HFk.out]; exact hown5.lower (by have h1 := hB4.size; have h2 := HBi.out.size; omega)), hJ (fun h => absurd h (by rw [HFk.out]; simp)), HBi.out.trans (hB5.mono HBi.out.size)⟩
             case measure => simp [intOf]; omega
  · have HAll : Hid (l.take i = l) := hJ (List.take_of_length_le (by rw [HN.out]; omega))
    obtain ⟨a0, m0, c0, rfl⟩ := HO.out.shape
    go_wp2_with fail
    go_ret
    exact ⟨⟨_, rfl, by have := HO.out; rwa [HAll.out] at this⟩, hB⟩
theorem put5 {S : Blk} {W0 w1 : World} {g B : Nat} {T : TypeId} {z0 z1 z2 z3 z4 : Value} (v0 v1 v2 v3 v4 : Value) {ds : List Value} {x : Sch} (hb : Bx W0 g T [z0, z1, z2, z3, z4]) (hr : RSch.rd S W0 ds x) (hS : ∀ k, S k → k < W0.heap.size → k ≠ g) (hB : Below B w1 W0) (hg : B ≤ g) :
 Hid (Bx (((((W0.setCell ⟨g, 0, none⟩ v0).setCell ⟨g, 1, none⟩ v1).setCell ⟨g, 2, none⟩ v2).setCell ⟨g, 3, none⟩ v3).setCell ⟨g, 4, none⟩ v4) g T [v0, v1, v2, v3, v4]) ∧ Hid (B ≤ g) ∧
 Hid (RSch.rd (fun k => S k ∧ k ≠ g) (((((W0.setCell ⟨g, 0, none⟩ v0).setCell ⟨g, 1, none⟩ v1).setCell ⟨g, 2, none⟩ v2).setCell ⟨g, 3, none⟩ v3).setCell ⟨g, 4, none⟩ v4) ds x) ∧
 Hid (Below B w1 (((((W0.setCell ⟨g, 0, none⟩ v0).setCell ⟨g, 1, none⟩ v1).setCell ⟨g, 2, none⟩ v2).setCell ⟨g, 3, none⟩ v3).setCell ⟨g, 4, none⟩ v4)) :=
 ⟨hJ (((((hb.set 0 v0).set 1 v1).set 2 v2).set 3 v3).set 4 v4), hJ hg,
  hJ (RSch.frame (RSch.mono hr (fun k hk hlt => ⟨hk, hS k hk hlt⟩)) (fun k hk _ => (kAA (fun e => hk.2 e.symm)).trans ((kAA (fun e => hk.2 e.symm)).trans ((kAA (fun e => hk.2 e.symm)).trans ((kAA (fun e => hk.2 e.symm)).trans (kAA (fun e => hk.2 e.symm))))))),
  hJ (((((hB.setCell hg _).setCell hg _).setCell hg _).setCell hg _).setCell hg _)⟩
theorem ref12_Canonical {S : Blk} {s : Sch} {cs : List Value} {w : World} (h : RSch.rd S w cs s) (hz : szS s) (hpl : s.params.length ≤ 1000000) (hwl : kAJ s = true → s.wh.length ≤ 100) :
 Calls Tryz.prog 9 #[.agg cs.toArray] w fun e w' => (∃ ds, e = .returned (.tuple #[.agg ds.toArray, .int .i64 (kDY s)]) ∧ RSch.rd (fun q => w.heap.size ≤ q) w' ds (can s)) ∧ Below w.heap.size w w' := by
 have HV : Hid (∀ W, Below w.heap.size w W → Calls Tryz.prog 29 #[.agg cs.toArray] W fun e w' => e = .returned (.bool (kAJ s)) ∧ Below W.heap.size W w') :=
  hJ (fun W hW => kB0 (RSch.below h hW) hz hpl)
 have HSc := hJ (fun (W : World) (hW : Below w.heap.size w W) => RSch.below h hW)
 cases hv : kAJ s with
 | false =>
   rw [hv] at HV; have HBd := hJ (can_no hv); obtain ⟨p, t, q, rfl, ⟨ap, cp, rfl, _⟩, ⟨at_, ct, rfl, _⟩, ⟨aq, cq, rfl, _⟩⟩ := h; clear hv; obtain ⟨B0, ya, yb, hW0⟩ := box2 w 41 [.slice ap s.params.length cp, .string s.result.elem, .string s.result.shape.row, .slice at_ s.result.shape.dims.length ct, .slice aq s.wh.length cq] 41 [.slice none 0 0, .string ⟨#[]⟩, .string ⟨#[]⟩, .slice none 0 0, .slice none 0 0]; have xa0 := box0 ya 0 _ rfl; have xa1 := box0 ya 1 _ rfl; have xa2 := box0 ya 2 _ rfl; have xa3 := box0 ya 3 _ rfl; have xa4 := box0 ya 4 _ rfl; have xb0 := box0 yb 0 _ rfl; have xb1 := box0 yb 1 _ rfl; have xb2 := box0 yb 2 _ rfl; have xb3 := box0 yb 3 _ rfl; have xb4 := box0 yb 4 _ rfl
   have bka : Bx _ _ _ _ := ya; have bkb : Bx _ _ _ _ := yb
   clear ya yb; have HR0 := hJ bkb; clear bka bkb
   go_enter func9, ntmps9
   go_wp2_with fail
   refine (HV.out _ B0.out).mono ?_
   rintro e w1 ⟨rfl, hb1⟩
   have HRw := hJ (HR0.out.below hb1 HR0.out.lt)
   have HWw : Hid (Below w.heap.size w w1) := hJ (B0.out.trans (hb1.mono B0.out.size))
   clear xa0 xa1 xa2 xa3 xa4 xb0 xb1 xb2 xb3 xb4 hb1 HR0 B0 HV; have v0 := HRw.out.cell 0 _ rfl; have v1 := HRw.out.cell 1 _ rfl; have v2 := HRw.out.cell 2 _ rfl; have v3 := HRw.out.cell 3 _ rfl; have v4 := HRw.out.cell 4 _ rfl; have u0 := HRw.out.fz 0; have u1 := HRw.out.fz 1; have u2 := HRw.out.fz 2; have u3 := HRw.out.fz 3; have u4 := HRw.out.fz 4; have hlr := HRw.out.lt; have HX60 := hJ (((((HRw.out.set 0 (.slice none 0 0)).set 1 (.string ⟨#[]⟩)).set 2 (.string ⟨#[]⟩)).set 3 (.slice none 0 0)).set 4 (.slice none 0 0)); have s0 := HX60.out.cell 0 _ rfl; have s1 := HX60.out.cell 1 _ rfl; have s2 := HX60.out.cell 2 _ rfl; have s3 := HX60.out.cell 3 _ rfl; have s4 := HX60.out.cell 4 _ rfl
   go_wp2_with fail
   refine bodyPost_ret (v := .tuple #[.agg #[.slice none 0 0, .string ⟨#[]⟩, .string ⟨#[]⟩, .slice none 0 0, .slice none 0 0], .int .i64 1]) (by simp [results, results9, go_sem, s0, s1, s2, s3, s4, hlr]) rfl ?_
   refine ⟨⟨[.slice none 0 0, .string ⟨#[]⟩, .string ⟨#[]⟩, .slice none 0 0, .slice none 0 0], by rw [HBd.out.1], by rw [HBd.out.2]; exact (kDP.no _ _).rd⟩, ?_⟩
   repeat (first | exact HWw.out | refine Below.setCell ?_ (by show _ ≤ w.heap.size + 1; omega) _)
 | true =>
   rw [hv] at HV
   have HCV := hJ (fun (W : World) (hW : Below w.heap.size w W) => ref12_Renaming (HSc.out W hW) hv)
   have HCS := hJ (fun (W : World) (hW : Below w.heap.size w W) (T : Blk) (a : Option Addr) (nb cb : Nat) (hbs : Sl RBnd T W a nb cb (ren (kA1 s))) => ref12_SubstScheme (HSc.out W hW) hv (ren (kA1 s)) a nb cb hbs (kGG hv) (ren_plain (kCX hv)))
   have HBad := hJ (fun q => can_bad hv q)
   have HGood := hJ (fun q => can_good hv q)
   have HWL : Hid (s.wh.length ≤ 100) := hJ (hwl hv)
   obtain ⟨p, t, q, rfl, ⟨ap, cp, rfl, _⟩, ⟨at_, ct, rfl, _⟩, ⟨aq, cq, rfl, _⟩⟩ := h; clear hv hwl HSc
   generalize kA1 s = L at *
   obtain ⟨B0, ya, yb, hW0⟩ := box2 w 41 [.slice ap s.params.length cp, .string s.result.elem, .string s.result.shape.row, .slice at_ s.result.shape.dims.length ct, .slice aq s.wh.length cq] 41 [.slice none 0 0, .string ⟨#[]⟩, .string ⟨#[]⟩, .slice none 0 0, .slice none 0 0]; have xa0 := box0 ya 0 _ rfl; have xa1 := box0 ya 1 _ rfl; have xa2 := box0 ya 2 _ rfl; have xa3 := box0 ya 3 _ rfl; have xa4 := box0 ya 4 _ rfl; have xb0 := box0 yb 0 _ rfl; have xb1 := box0 yb 1 _ rfl; have xb2 := box0 yb 2 _ rfl; have xb3 := box0 yb 3 _ rfl; have xb4 := box0 yb 4 _ rfl
   have bka : Bx _ _ _ _ := ya; have bkb : Bx _ _ _ _ := yb
   clear ya yb; have HA0 := hJ bka; have HR0 := hJ bkb; clear bka bkb
   go_enter func9, ntmps9
   go_wp2_with fail
   refine (HV.out _ B0.out).mono ?_
   rintro e w1 ⟨rfl, hb1⟩
   have HA1 := hJ (HA0.out.below hb1 HA0.out.lt); have HR1 := hJ (HR0.out.below hb1 HR0.out.lt)
   have HW1 : Hid (Below w.heap.size w w1) := hJ (B0.out.trans (hb1.mono B0.out.size))
   clear xa0 xa1 xa2 xa3 xa4 xb0 xb1 xb2 xb3 xb4 hb1 HR0 HA0 B0 HV
   have hz1 : w.heap.size + 1 < w1.heap.size := HR1.out.lt
   have y0 := HA1.out.cell 0 _ rfl; have y1 := HA1.out.cell 1 _ rfl; have y2 := HA1.out.cell 2 _ rfl; have y3 := HA1.out.cell 3 _ rfl; have y4 := HA1.out.cell 4 _ rfl
   generalize hbb : ren L = b at *
   clear hbb; have HZ1 := hJ hz1; clear hz1
   go_upto_region 3 with fail
   go_cut [4, 5] (fun v4 v5 W => ∃ g ap3 cp3 at3 ct3 aq3 cq3, v4 = .pointer (some ⟨g, 0, none⟩) ∧ v5 = .int .i64 (kB7 b s) ∧ Hid (Bx W g 41 [.slice ap3 (kBL b s).params.length cp3, .string (kBL b s).result.elem, .string (kBL b s).result.shape.row, .slice at3 (kBL b s).result.shape.dims.length ct3, .slice aq3 (kBL b s).wh.length cq3]) ∧ Hid (w1.heap.size ≤ g) ∧ Hid (RSch.rd (fun k => w1.heap.size ≤ k ∧ k ≠ g) W [.slice ap3 (kBL b s).params.length cp3, .string (kBL b s).result.elem, .string (kBL b s).result.shape.row, .slice at3 (kBL b s).result.shape.dims.length ct3, .slice aq3 (kBL b s).wh.length cq3] (kBL b s)) ∧ Hid (Below w1.heap.size w1 W))
   case first =>
    go_region_held3 (fun W => W.cell? ⟨w.heap.size, 0, none⟩ = some (.slice ap s.params.length cp) ∧ W.cell? ⟨w.heap.size, 1, none⟩ = some (.string s.result.elem) ∧ W.cell? ⟨w.heap.size, 2, none⟩ = some (.string s.result.shape.row) ∧ W.cell? ⟨w.heap.size, 3, none⟩ = some (.slice at_ s.result.shape.dims.length ct) ∧ W.cell? ⟨w.heap.size, 4, none⟩ = some (.slice aq s.wh.length cq)) (first | (with_reducible exact ⟨bb0, bb1, bb2, bb3, bb4⟩) | (with_reducible exact ⟨aa0, aa1, aa2, aa3, aa4⟩) | (with_reducible exact ⟨y0, y1, y2, y3, y4⟩) | go_keep) (first
    | (go_at_call 31
       refine (HCV.out w1.drew (HW1.out.trans (Below.mono (B := w1.heap.size) ((Below.refl _ _).drew) HW1.out.size))).mono ?_
       rintro e w2 ⟨⟨v2, rfl, hown2⟩, hb2⟩
       obtain ⟨a2, c2, rfl, hs2⟩ := hown2.sl
       have hB2 : Below w1.heap.size w1 w2 := Below.trans ((Below.refl _ _).drew) (hb2.mono (by simp))
       have hz2 := hB2.size; have aa0 := kAC y0 _ hB2; have aa1 := kAC y1 _ hB2; have aa2 := kAC y2 _ hB2; have aa3 := kAC y3 _ hB2
       have aa4 := kAC y4 _ hB2)
    | (go_at_call 31
       refine (HCV.out (w1.alloc (.cells #[.slice none 0 0, .string ⟨#[]⟩, .string ⟨#[]⟩, .slice none 0 0, .slice none 0 0] 41)).drew (HW1.out.trans (Below.mono (B := w1.heap.size) (((Below.refl _ _).alloc (Nat.le_refl _) _).drew) HW1.out.size))).mono ?_
       rintro e w2 ⟨⟨v2, rfl, hown2⟩, hb2⟩
       obtain ⟨a2, c2, rfl, hs2⟩ := hown2.sl
       have hB2 : Below w1.heap.size w1 w2 := Below.trans (((Below.refl _ _).alloc (Nat.le_refl _) _).drew) (hb2.mono (by simp))
       have hz2 := hB2.size
       have HP2 : Hid (Bx w2 w1.heap.size 41 [.slice none 0 0, .string ⟨#[]⟩, .string ⟨#[]⟩, .slice none 0 0, .slice none 0 0]) := hJ (Bx.below (Bx.fresh w1 _ _) hb2 (by simp))
       have aa0 := kAC y0 _ hB2; have aa1 := kAC y1 _ hB2; have aa2 := kAC y2 _ hB2; have aa3 := kAC y3 _ hB2
       have aa4 := kAC y4 _ hB2)
    | (go_at_call 31
       refine (HCV.out (w1.drew.alloc (.cells #[.slice none 0 0, .string ⟨#[]⟩, .string ⟨#[]⟩, .slice none 0 0, .slice none 0 0] 41)) (HW1.out.trans (Below.mono (B := w1.heap.size) (((Below.refl _ _).drew).alloc (Nat.le_refl _) _) HW1.out.size))).mono ?_
       rintro e w2 ⟨⟨v2, rfl, hown2⟩, hb2⟩
       obtain ⟨a2, c2, rfl, hs2⟩ := hown2.sl
       have hB2 : Below w1.heap.size w1 w2 := Below.trans (((Below.refl _ _).drew).alloc (Nat.le_refl _) _) (hb2.mono (by simp))
       have hz2 := hB2.size
       have HP2 : Hid (Bx w2 w1.heap.size 41 [.slice none 0 0, .string ⟨#[]⟩, .string ⟨#[]⟩, .slice none 0 0, .slice none 0 0]) := hJ (Bx.below (Bx.fresh w1.drew _ _) hb2 (by simp))
       have aa0 := kAC y0 _ hB2; have aa1 := kAC y1 _ hB2; have aa2 := kAC y2 _ hB2; have aa3 := kAC y3 _ hB2
       have aa4 := kAC y4 _ hB2)
    | (go_at_call 30
       have HP2' := HP2
       refine (HCS.out w2 (HW1.out.trans ((hB2.trans (Below.mono (B := w2.heap.size) (Below.refl _ _) hB2.size)).mono HW1.out.size)) _ _ _ _ (hs2.below (Below.refl _ _))).mono ?_
       rintro e w3 ⟨⟨ds, rfl, hos⟩, hb3⟩
       have hr3 := hos.rd; obtain ⟨base, _, _, _, hb0, rfl, ⟨ap3, cp3, rfl, hp3⟩, ⟨at3, ct3, rfl, ht3⟩, hq3⟩ := hos; obtain ⟨aq3, cq3, rfl, hsq3⟩ := hq3.sl
       have hBs : Below w2.heap.size w2 w3 := Below.trans (Below.refl _ _) (hb3.mono (by simp))
       have hB3 : Below w1.heap.size w1 w3 := hB2.trans (hBs.mono hB2.size)
       have HP3 : Hid (Bx w3 w1.heap.size 41 [.slice none 0 0, .string ⟨#[]⟩, .string ⟨#[]⟩, .slice none 0 0, .slice none 0 0]) := hJ (HP2.out.below hBs HP2.out.lt)
       have hg3 : w1.heap.size < w2.heap.size := HP2.out.lt
       have hl3 := HP3.out.lt; have c0 := HP3.out.cell 0 _ rfl; have f0 := HP3.out.fz 0; have c1 := HP3.out.cell 1 _ rfl; have f1 := HP3.out.fz 1; have c2 := HP3.out.cell 2 _ rfl; have f2 := HP3.out.fz 2; have c3 := HP3.out.cell 3 _ rfl; have f3 := HP3.out.fz 3; have c4 := HP3.out.cell 4 _ rfl; have f4 := HP3.out.fz 4
       have hn1 : ¬ w2.heap.size = w.heap.size := by have := HZ1.out; have := hB2.size; omega
       have hn2 : ¬ w.heap.size = w2.heap.size := fun e => hn1 e.symm
       have hn3 : ¬ w1.heap.size = w.heap.size := by have := HZ1.out; omega
       have hn4 : ¬ w.heap.size = w1.heap.size := fun e => hn3 e.symm
       clear hb0 hp3 ht3 hq3 hsq3; have bb0 := kAC y0 _ hB3; have bb1 := kAC y1 _ hB3; have bb2 := kAC y2 _ hB3; have bb3 := kAC y3 _ hB3
       have bb4 := kAC y4 _ hB3)
    | (go_at_call 30
       refine (HCS.out w2 (HW1.out.trans ((hB2.trans (Below.mono (B := w2.heap.size) (Below.refl _ _) hB2.size)).mono HW1.out.size)) _ _ _ _ (hs2.below (Below.refl _ _))).mono ?_
       rintro e w3 ⟨⟨ds, rfl, hos⟩, hb3⟩
       have hr3 := hos.rd; obtain ⟨base, _, _, _, hb0, rfl, ⟨ap3, cp3, rfl, hp3⟩, ⟨at3, ct3, rfl, ht3⟩, hq3⟩ := hos; obtain ⟨aq3, cq3, rfl, hsq3⟩ := hq3.sl
       have hBs : Below w2.heap.size w2 w3 := Below.trans (Below.refl _ _) (hb3.mono (by simp))
       have hB3 : Below w1.heap.size w1 w3 := hB2.trans (hBs.mono hB2.size)
       have hn1 : ¬ w2.heap.size = w.heap.size := by have := HZ1.out; have := hB2.size; omega
       have hn2 : ¬ w.heap.size = w2.heap.size := fun e => hn1 e.symm
       have hn3 : ¬ w1.heap.size = w.heap.size := by have := HZ1.out; omega
       have hn4 : ¬ w.heap.size = w1.heap.size := fun e => hn3 e.symm
       clear hb0 hp3 ht3 hq3 hsq3; have bb0 := kAC y0 _ hB3; have bb1 := kAC y1 _ hB3; have bb2 := kAC y2 _ hB3; have bb3 := kAC y3 _ hB3
       have bb4 := kAC y4 _ hB3)
    | (go_at_call 30
       refine (HCS.out (w2.alloc (.cells #[.slice none 0 0, .string ⟨#[]⟩, .string ⟨#[]⟩, .slice none 0 0, .slice none 0 0] 41)) (HW1.out.trans ((hB2.trans (Below.mono (B := w2.heap.size) ((Below.refl _ _).alloc (Nat.le_refl _) _) hB2.size)).mono HW1.out.size)) _ _ _ _ (hs2.below ((Below.refl _ _).alloc (Nat.le_refl _) _))).mono ?_
       rintro e w3 ⟨⟨ds, rfl, hos⟩, hb3⟩
       have hr3 := hos.rd; obtain ⟨base, _, _, _, hb0, rfl, ⟨ap3, cp3, rfl, hp3⟩, ⟨at3, ct3, rfl, ht3⟩, hq3⟩ := hos; obtain ⟨aq3, cq3, rfl, hsq3⟩ := hq3.sl
       have hBs : Below w2.heap.size w2 w3 := Below.trans ((Below.refl _ _).alloc (Nat.le_refl _) _) (hb3.mono (by simp))
       have hB3 : Below w1.heap.size w1 w3 := hB2.trans (hBs.mono hB2.size)
       have HP3 : Hid (Bx w3 w2.heap.size 41 [.slice none 0 0, .string ⟨#[]⟩, .string ⟨#[]⟩, .slice none 0 0, .slice none 0 0]) := hJ (Bx.below (Bx.fresh w2 _ _) hb3 (by simp))
       have hl3 := HP3.out.lt; have c0 := HP3.out.cell 0 _ rfl; have f0 := HP3.out.fz 0; have c1 := HP3.out.cell 1 _ rfl; have f1 := HP3.out.fz 1; have c2 := HP3.out.cell 2 _ rfl; have f2 := HP3.out.fz 2; have c3 := HP3.out.cell 3 _ rfl; have f3 := HP3.out.fz 3; have c4 := HP3.out.cell 4 _ rfl; have f4 := HP3.out.fz 4
       have hn1 : ¬ w2.heap.size = w.heap.size := by have := HZ1.out; have := hB2.size; omega
       have hn2 : ¬ w.heap.size = w2.heap.size := fun e => hn1 e.symm
       have hn3 : ¬ w1.heap.size = w.heap.size := by have := HZ1.out; omega
       have hn4 : ¬ w.heap.size = w1.heap.size := fun e => hn3 e.symm
       clear hb0 hp3 ht3 hq3 hsq3; have bb0 := kAC y0 _ hB3; have bb1 := kAC y1 _ hB3; have bb2 := kAC y2 _ hB3; have bb3 := kAC y3 _ hB3
       have bb4 := kAC y4 _ hB3))
    all_goals
     have HQ3 := hJ hr3; have HBB := hJ hB3; have HB2' := hJ hB2; clear hr3 hB3 hB2 hb2 hb3 y0 y1 y2 y3 y4 aa0 aa1 aa2 aa3 aa4 bb0 bb1 bb2 bb3 bb4 hs2 hown2 hn1 hn2 hn3 hn4 hBs
     go_wp2_with fail
     go_meet
     have hz1 := HZ1.out; have hz2 := HB2'.out.size; have hz3 := HBB.out.size
    · refine ⟨w3.heap.size, ap3, cp3, at3, ct3, aq3, cq3, rfl, rfl, hJ (Bx.fresh w3 _ _), hJ hz3, hJ ?_, hJ (HBB.out.alloc hz3 _)⟩
      exact RSch.below (RSch.mono HQ3.out (fun k hk hlt => ⟨Nat.le_trans hz2 hk, Nat.ne_of_lt hlt⟩)) ((Below.refl _ _).alloc (Nat.le_refl _) _)
    · have hq := put5 (B := w1.heap.size) (g := w2.heap.size) (.slice ap3 (kBL b s).params.length cp3) (.string (kBL b s).result.elem) (.string (kBL b s).result.shape.row) (.slice at3 (kBL b s).result.shape.dims.length ct3) (.slice aq3 (kBL b s).wh.length cq3) HP3.out HQ3.out (fun k hk _ => Nat.ne_of_gt (Nat.lt_of_lt_of_le (by simp) hk)) HBB.out hz2
      refine ⟨w2.heap.size, ap3, cp3, at3, ct3, aq3, cq3, rfl, rfl, hq.1, hq.2.1, hJ ?_, hq.2.2.2⟩
      exact RSch.mono hq.2.2.1.out (fun k hk _ => ⟨by have := hk.1; simp at this; omega, hk.2⟩)
    · have hq := put5 (B := w1.heap.size) (g := w1.heap.size) (.slice ap3 (kBL b s).params.length cp3) (.string (kBL b s).result.elem) (.string (kBL b s).result.shape.row) (.slice at3 (kBL b s).result.shape.dims.length ct3) (.slice aq3 (kBL b s).wh.length cq3) HP3.out HQ3.out (fun k hk _ e => by rw [e] at hk; omega) HBB.out (Nat.le_refl _)
      refine ⟨w1.heap.size, ap3, cp3, at3, ct3, aq3, cq3, rfl, rfl, hq.1, hq.2.1, hJ ?_, hq.2.2.2⟩
      exact RSch.mono hq.2.2.1.out (fun k hk _ => ⟨Nat.le_trans hz2 hk.1, hk.2⟩)
   case rest =>
    obtain ⟨g, ap3, cp3, at3, ct3, aq3, cq3, rfl, rfl, HP, HG, HR, HB⟩ := hcut; have HRw := hJ (HR1.out.below HB.out HR1.out.lt)
    have HWw : Hid (Below w.heap.size w wc) := hJ (HW1.out.trans (HB.out.mono HW1.out.size))
    clear y0 y1 y2 y3 y4 HCV HCS
    cases hok : kBN b s with
    | false =>
      have HBd := hJ (HBad.out hok); rw [(sch_no hok).2]; clear hok HGood HBad; have v0 := HRw.out.cell 0 _ rfl; have v1 := HRw.out.cell 1 _ rfl; have v2 := HRw.out.cell 2 _ rfl; have v3 := HRw.out.cell 3 _ rfl; have v4 := HRw.out.cell 4 _ rfl; have u0 := HRw.out.fz 0; have u1 := HRw.out.fz 1; have u2 := HRw.out.fz 2; have u3 := HRw.out.fz 3; have u4 := HRw.out.fz 4; have hlr := HRw.out.lt; have HX60 := hJ (((((HRw.out.set 0 (.slice none 0 0)).set 1 (.string ⟨#[]⟩)).set 2 (.string ⟨#[]⟩)).set 3 (.slice none 0 0)).set 4 (.slice none 0 0)); have s0 := HX60.out.cell 0 _ rfl; have s1 := HX60.out.cell 1 _ rfl; have s2 := HX60.out.cell 2 _ rfl; have s3 := HX60.out.cell 3 _ rfl; have s4 := HX60.out.cell 4 _ rfl
      go_wp2_with fail
      refine bodyPost_ret (v := .tuple #[.agg #[.slice none 0 0, .string ⟨#[]⟩, .string ⟨#[]⟩, .slice none 0 0, .slice none 0 0], .int .i64 3]) (by simp [results, results9, go_sem, s0, s1, s2, s3, s4, hlr]) rfl ?_
      refine ⟨⟨[.slice none 0 0, .string ⟨#[]⟩, .string ⟨#[]⟩, .slice none 0 0, .slice none 0 0], by rw [HBd.out.1], by rw [HBd.out.2]; exact (kDP.no _ _).rd⟩, ?_⟩
      repeat (first | exact HWw.out | refine Below.setCell ?_ (by show _ ≤ w.heap.size + 1; omega) _)
    | true =>
      obtain ⟨hg0, hg1⟩ := HGood.out hok; have HG0 := hJ hg0
      have HE0 : kB7 b s = 0 := by unfold kB7; rw [hok]; rfl
      have HS1 : kBL b s = kCF b s := by unfold kBL; rw [hok]; rfl
      rw [HE0]; rw [HS1] at HP HR
      have HSp : Hid (can s = ⟨(kCF b s).params, (kCF b s).result, tidy (kCF b s).wh⟩) := hJ hg1
      have hwl : (kCF b s).wh.length ≤ 100 := by
       have h1 : (kCF b s).wh = s.wh.map (kAF b) := rfl
       rw [h1, List.length_map]; exact HWL.out
      clear hok HGood HBad hg0 hg1 HE0 HS1
      generalize kCF b s = s' at *
      obtain ⟨_, _, _, e, ⟨_, _, e1, hp3⟩, ⟨_, _, e2, ht3⟩, ⟨_, _, e3, hq3⟩⟩ := HR.out
      simp only [List.cons.injEq, and_true, true_and] at e
      obtain ⟨rfl, rfl, rfl⟩ := e; rw [Value.slice.injEq] at e1 e2 e3; obtain ⟨rfl, -, rfl⟩ := e1; obtain ⟨rfl, -, rfl⟩ := e2; obtain ⟨rfl, -, rfl⟩ := e3; have HPs := hJ hp3; have HTs := hJ ht3; have HTd := hJ (ref12_Tidy s'.wh aq3 _ cq3 wc hq3 hwl); have q4 := HP.out.cell 4 _ rfl; clear hp3 ht3 hq3 HR hwl
      go_wp2_with fail
      refine HTd.out.mono ?_
      rintro e w8 ⟨⟨v1, rfl, hown8⟩, hb8⟩
      obtain ⟨a8, c8, rfl, hs8⟩ := hown8.sl; have HS8 := hJ hs8; have HB8 := hJ hb8; have hlg := HP.out.lt; have HP8 := hJ (HP.out.below hb8 hlg); have HR8 := hJ (HRw.out.below hb8 HRw.out.lt); have hz8 := hb8.size
      have hzg : w.heap.size + 1 < g := Nat.lt_of_lt_of_le HZ1.out HG.out
      clear hown8 hs8 hb8 q4 HTd HP HRw; have r4 := HP8.out.cell 4 _ rfl; have g4 := HP8.out.fz 4; have HP12 := hJ (HP8.out.set 4 (.slice a8 (tidy s'.wh).length c8)); have p0 := HP12.out.cell 0 _ rfl; have p1 := HP12.out.cell 1 _ rfl; have p2 := HP12.out.cell 2 _ rfl; have p3 := HP12.out.cell 3 _ rfl; have p4 := HP12.out.cell 4 _ rfl
      have HRw : Hid (Bx (w8.setCell ⟨g, 4, none⟩ (.slice a8 (tidy s'.wh).length c8)) (w.heap.size + 1) 41 _) := hJ (HR8.out.other (by show g ≠ w.heap.size + 1; omega))
      have v0 := HRw.out.cell 0 _ rfl; have v1 := HRw.out.cell 1 _ rfl; have v2 := HRw.out.cell 2 _ rfl; have v3 := HRw.out.cell 3 _ rfl; have v4 := HRw.out.cell 4 _ rfl; have u0 := HRw.out.fz 0; have u1 := HRw.out.fz 1; have u2 := HRw.out.fz 2; have u3 := HRw.out.fz 3; have u4 := HRw.out.fz 4; have hlr := HRw.out.lt; have HX60 := hJ (((((HRw.out.set 0 (.slice ap3 s'.params.length cp3)).set 1 (.string s'.result.elem)).set 2 (.string s'.result.shape.row)).set 3 (.slice at3 s'.result.shape.dims.length ct3)).set 4 (.slice a8 (tidy s'.wh).length c8)); have s0 := HX60.out.cell 0 _ rfl; have s1 := HX60.out.cell 1 _ rfl; have s2 := HX60.out.cell 2 _ rfl; have s3 := HX60.out.cell 3 _ rfl; have s4 := HX60.out.cell 4 _ rfl
      go_wp2_with fail
      refine bodyPost_ret (v := .tuple #[.agg #[.slice ap3 s'.params.length cp3, .string s'.result.elem, .string s'.result.shape.row, .slice at3 s'.result.shape.dims.length ct3, .slice a8 (tidy s'.wh).length c8], .int .i64 0]) (by simp [results, results9, go_sem, s0, s1, s2, s3, s4, hlr]) rfl ?_
      have hF : ∀ q, q ≠ g → q ≠ w.heap.size + 1 → ((((((w8.setCell ⟨g, 4, none⟩ (.slice a8 (tidy s'.wh).length c8)).setCell ⟨w.heap.size + 1, 0, none⟩ (.slice ap3 s'.params.length cp3)).setCell ⟨w.heap.size + 1, 1, none⟩ (.string s'.result.elem)).setCell ⟨w.heap.size + 1, 2, none⟩ (.string s'.result.shape.row)).setCell ⟨w.heap.size + 1, 3, none⟩ (.slice at3 s'.result.shape.dims.length ct3)).setCell ⟨w.heap.size + 1, 4, none⟩ (.slice a8 (tidy s'.wh).length c8)).heap[q]? = w8.heap[q]? := fun q h1 h2 => (kAA (fun e => h2 e.symm)).trans ((kAA (fun e => h2 e.symm)).trans ((kAA (fun e => h2 e.symm)).trans ((kAA (fun e => h2 e.symm)).trans ((kAA (fun e => h2 e.symm)).trans (kAA (fun e => h1 e.symm))))))
      have hz1 := HZ1.out
      have hFp : ∀ q, (w1.heap.size ≤ q ∧ q ≠ g) → q < wc.heap.size → ((((((w8.setCell ⟨g, 4, none⟩ (.slice a8 (tidy s'.wh).length c8)).setCell ⟨w.heap.size + 1, 0, none⟩ (.slice ap3 s'.params.length cp3)).setCell ⟨w.heap.size + 1, 1, none⟩ (.string s'.result.elem)).setCell ⟨w.heap.size + 1, 2, none⟩ (.string s'.result.shape.row)).setCell ⟨w.heap.size + 1, 3, none⟩ (.slice at3 s'.result.shape.dims.length ct3)).setCell ⟨w.heap.size + 1, 4, none⟩ (.slice a8 (tidy s'.wh).length c8)).heap[q]? = wc.heap[q]? := fun q h1 h2 => (hF q h1.2 (by have := h1.1; omega)).trans (HB8.out.block q h2)
      refine ⟨⟨[.slice ap3 s'.params.length cp3, .string s'.result.elem, .string s'.result.shape.row, .slice at3 s'.result.shape.dims.length ct3, .slice a8 (tidy s'.wh).length c8], by rw [HG0.out], ?_⟩, ?_⟩
      · rw [HSp.out]
        refine ⟨_, _, _, rfl, ⟨ap3, cp3, rfl, (HPs.out.frame hFp).mono (fun k hk _ => by have := hk.1; omega)⟩, ⟨at3, ct3, rfl, (HTs.out.frame hFp).mono (fun k hk _ => by have := hk.1; omega)⟩, ⟨a8, c8, rfl, ?_⟩⟩
        refine (HS8.out.frame (fun k hk _ => hF k ?ha ?hb)).mono (fun k hk _ => ?hc)
        case ha => rcases hk with hk | hk; exact hk.1.2; omega
        case hb => rcases hk with hk | hk; have := hk.1.1; omega; omega
        case hc => rcases hk with hk | hk; have := hk.1.1; omega; omega
      · have hB' := HWw.out.trans (HB8.out.mono (B' := w.heap.size) HWw.out.size)
        exact (((((hB'.setCell (by show w.heap.size ≤ g; omega) _).setCell (by show w.heap.size ≤ w.heap.size + 1; omega) _).setCell (by show w.heap.size ≤ w.heap.size + 1; omega) _).setCell (by show w.heap.size ≤ w.heap.size + 1; omega) _).setCell (by show w.heap.size ≤ w.heap.size + 1; omega) _).setCell (by show w.heap.size ≤ w.heap.size + 1; omega) _
theorem ours_at {L : Nat} {x : Ifc} {a : Option Addr} {n c : Nat} {w : World} (hs : Sl REnt (fun k => k < L) w a n c x.entries) (hn : n ≤ 1000000) :
 Calls Tryz.prog 8 #[.agg #[.string x.module_, .slice a n c]] w fun e w' => (∃ v, e = .returned (.agg #[.string x.module_, v]) ∧ Own REnt 43 (fun k => k < L) w' w.heap.size v x.entries) ∧ Below w.heap.size w w' :=
 (oursIfc hs hn).mono fun e w' ⟨⟨v, he, ho⟩, hb⟩ => ⟨⟨v, he, (ho.mono (fun k hk _ => hk.1)).lower (by omega)⟩, hb⟩
theorem ins_perm (s : Str) (c : Int) : ∀ (l : List Coef), (∀ t ∈ l, seq t.v s = false) → (ins s c l).Perm (⟨s, c⟩ :: l)
 | [], _ => List.Perm.refl _
 | t :: l, h => by
   unfold ins
   split
   · exact List.Perm.refl _
   · rw [if_neg (by rw [h t (List.mem_cons_self ..)]; decide)]
     exact ((ins_perm s c l (fun u hu => h u (List.mem_cons_of_mem _ hu))).cons t).trans (List.Perm.swap _ _ _)
theorem plus_perm {l : List Coef} (hs : Srt l) (hz : Nz l) {s : Str} {c : Int} (hc : c ≠ 0) (h : ∀ t ∈ l, seq t.v s = false) : (plus l s c).Perm (⟨s, c⟩ :: l) := by
 unfold plus
 rw [kEB hs]; have hp := ins_perm s c l h
 have e : (ins s c l).filter nzB = ins s c l := List.filter_eq_self.2 fun t ht => by
  have : t.c ≠ 0 := by
   rcases List.mem_cons.1 (hp.mem_iff.1 ht) with q | q
   · rw [q]; exact hc
   · exact hz t q
  unfold nzB; exact bne_iff_ne.2 this
 rw [e]; exact hp
def renT (f : Str → Str) (l : List Coef) : List Coef := l.map (fun t => ⟨f t.v, t.c⟩)
structure RunOk (f : Str → Str) (c : Int) (done : List Coef) (acc : Lin) : Prop where
 con : acc.const = c
 srt : Srt acc.terms
 nz : Nz acc.terms
 perm : acc.terms.Perm (renT f done)
theorem RunOk.step {f : Str → Str} {c : Int} {done : List Coef} {acc : Lin} (h : RunOk f c done acc) {t : Coef} (ht : t.c ≠ 0) (hn : ∀ d ∈ done, f d.v ≠ f t.v) : RunOk f c (done ++ [t]) (kB8 acc (varL (f t.v)) t.c) := by
 have e : (kB8 acc (varL (f t.v)) t.c).terms = plus acc.terms (f t.v) t.c := by
  show plus acc.terms (f t.v) (t.c * 1) = _
  rw [Int.mul_one]
 refine ⟨?_, ?_, ?_, ?_⟩
 · show acc.const + t.c * 0 = c
   rw [Int.mul_zero, Int.add_zero]; exact h.con
 · rw [e]; exact kGQ h.srt _ _
 · rw [e]; exact plus_nz _ _ _
 · rw [e]
   have hp := plus_perm h.srt h.nz ht (s := f t.v) (fun u hu => by
    obtain ⟨d, hd, q⟩ := List.mem_map.1 (h.perm.mem_iff.1 hu); rw [Bool.eq_false_iff]
    intro q2
    have q3 := (kA7 _ _).1 q2; rw [← q] at q3
    exact hn d hd q3)
   refine hp.trans ?_
   unfold renT
   rw [List.map_append]
   exact ((h.perm).cons _).trans (List.perm_append_singleton _ _).symm
theorem subRun_ren {b : List Bnd} {f : Str → Str} {c : Int} : ∀ (ts done : List Coef) (acc : Lin), (∀ t ∈ ts, sub1 b t.v = varL (f t.v) ∧ t.c ≠ 0) → (done ++ ts).Pairwise (fun a b => f a.v ≠ f b.v) → RunOk f c done acc → RunOk f c (done ++ ts) (ts.foldl (fun acc t => kB8 acc (sub1 b t.v) t.c) acc)
 | [], done, acc, _, _, h => by rw [List.append_nil]; exact h
 | t :: ts, done, acc, hs, hp, h => by
   have h1 := hs t (List.mem_cons_self ..)
   have hn : ∀ d ∈ done, f d.v ≠ f t.v := fun d hd => (List.pairwise_append.1 hp).2.2 d hd t (List.mem_cons_self ..)
   have := subRun_ren (b := b) ts (done ++ [t]) _ (fun u hu => hs u (List.mem_cons_of_mem _ hu)) (by rw [List.append_assoc]; exact hp) (h.step h1.2 hn)
   rw [List.append_assoc, ← h1.1] at this
   exact this
theorem validLin_mk {x : Lin} (h1 : Srt x.terms) (h2 : Nz x.terms) (h3 : Bd 1000000 x.terms) (h4 : ∀ t ∈ x.terms, kBB t.v = true) (h5 : -1000000 ≤ x.const ∧ x.const ≤ 1000000) (h6 : x.terms.length ≤ 12) : kAD x = true := by
 unfold kAD
 have hc : kB4 x.const = true := by unfold kB4; exact decide_eq_true h5
 have ht : kE7 x.terms = true := by
  unfold kE7
  rw [List.all_eq_true]
  intro i hi
  have hi := List.mem_range.1 hi; have hm := kAI hi
  unfold kD5
  have q2 : ((x.terms.getD i default).c != 0) = true := bne_iff_ne.2 (h2 _ hm)
  have q3 : kB4 (x.terms.getD i default).c = true := by unfold kB4; exact decide_eq_true (h3 _ hm)
  rw [h4 _ hm, q2, q3]
  rcases Nat.eq_zero_or_pos i with q | q
  · subst q; rfl
  · have : slt (x.terms.getD (i - 1) default).v (x.terms.getD i default).v = true := by
     have := List.pairwise_iff_getElem.1 h1 (i - 1) i (by omega) hi (by omega)
     rw [List.getD_eq_getElem?_getD, List.getElem?_eq_getElem (show i - 1 < x.terms.length by omega), List.getD_eq_getElem?_getD, List.getElem?_eq_getElem hi]
     exact this
    rw [this]; simp
 rw [hc, ht, decide_eq_true h6]; rfl
theorem subRaw_ok {b : List Bnd} {f : Str → Str} {x : Lin} (hx : kAD x = true) (hs : ∀ t ∈ x.terms, sub1 b t.v = varL (f t.v) ∧ kBB (f t.v) = true) (hi : x.terms.Pairwise (fun a b => f a.v ≠ f b.v)) : kAD (kAF b x) = true := by
 obtain ⟨q1, q2, q3, q4, q5, q6⟩ := kBF hx
 have h := subRun_ren (b := b) (f := f) (c := x.const) x.terms [] ⟨x.const, []⟩ (fun t ht => ⟨(hs t ht).1, q2 t ht⟩) hi ⟨rfl, List.Pairwise.nil, fun t ht => by simp at ht, List.Perm.refl _⟩
 rw [List.nil_append] at h
 have hm : ∀ u ∈ (kAF b x).terms, ∃ t ∈ x.terms, u = ⟨f t.v, t.c⟩ := fun u hu => by
  obtain ⟨t, ht, q⟩ := List.mem_map.1 (h.perm.mem_iff.1 hu)
  exact ⟨t, ht, q.symm⟩
 refine validLin_mk h.srt h.nz ?_ ?_ ?_ ?_
 · intro u hu; obtain ⟨t, ht, rfl⟩ := hm u hu; exact q3 t ht
 · intro u hu; obtain ⟨t, ht, rfl⟩ := hm u hu; exact (hs t ht).2
 · have : (kAF b x).const = x.const := h.con
   rw [this]; exact q5
 · have : (kAF b x).terms.length = x.terms.length := by
    have := h.perm.length_eq
    unfold renT at this
    rw [List.length_map] at this
    exact this
   omega
def Has (l : List Bnd) (k : Int) (v : Str) : Prop := l.any (isB k v) = true
theorem isB_iff {k : Int} {v : Str} {x : Bnd} : isB k v x = true ↔ x.kind = k ∧ x.v = v := by
 unfold isB
 rw [Bool.and_eq_true, beq_iff_eq]
 exact ⟨fun h => ⟨h.1, (kA7 x.v v).1 h.2⟩, fun h => ⟨h.1, (kA7 x.v v).2 h.2⟩⟩
theorem has_app {l m : List Bnd} {k : Int} {v : Str} (h : Has l k v) : Has (l ++ m) k v := by unfold Has at *; rw [List.any_append, h]; rfl
theorem Has.add {l : List Bnd} {k : Int} {v : Str} (h : Has l k v) (k' : Int) (v' : Str) : Has (addV l k' v') k v := by
 unfold addV
 split
 · exact h
 · exact has_app h
theorem has_add (l : List Bnd) (k : Int) (v : Str) : Has (addV l k v) k v := by
 unfold addV
 split
 · next q =>
   cases e : l.any (isB k v) with
   | true => exact e
   | false => have := kFE.2 e; omega
 · unfold Has
   rw [List.any_append]
   have : isB k v (bare k v) = true := isB_iff.2 ⟨rfl, rfl⟩
   simp [this]
theorem has_all {k : Int} {v : Str} : ∀ (ns : List Str) (l : List Bnd), Has l k v → Has (addAll l ns) k v
 | [], l, h => h
 | n :: ns, l, h => has_all ns (addV l 1 n) (h.add 1 n)
theorem has_in {n : Str} : ∀ (ns : List Str) (l : List Bnd), n ∈ ns → Has (addAll l ns) 1 n
 | [], l, h => by simp at h
 | m :: ns, l, h => by
   show Has (addAll (addV l 1 m) ns) 1 n
   rcases List.mem_cons.1 h with q | q
   · rw [q]; exact has_all ns _ (has_add l 1 m)
   · exact has_in ns _ q
theorem has_bs {k : Int} {v : Str} : ∀ (vs l : List Bnd), Has l k v → Has (addBs l vs) k v
 | [], l, h => h
 | x :: vs, l, h => has_bs vs (addV l x.kind x.v) (h.add _ _)
theorem has_bin {k : Int} {v : Str} : ∀ (vs l : List Bnd), Has vs k v → Has (addBs l vs) k v
 | [], l, h => by unfold Has at h; simp at h
 | x :: vs, l, h => by
   show Has (addBs (addV l x.kind x.v) vs) k v
   unfold Has at h
   rw [List.any_cons, Bool.or_eq_true] at h
   rcases h with q | q
   · have e := isB_iff.1 q
     refine has_bs vs _ ?_
     have := has_add l x.kind x.v
     rwa [e.1, e.2] at this ⊢
   · exact has_bin vs _ q
theorem has_run {k : Int} {v : Str} : ∀ (l : List Typ) (o : List Bnd), Has o k v → Has (l.foldl (fun o t => addBs o (kBQ t)) o) k v
 | [], o, h => h
 | t :: l, o, h => has_run l (addBs o (kBQ t)) (has_bs _ _ h)
theorem has_runIn {k : Int} {v : Str} {t : Typ} (hv : Has (kBQ t) k v) : ∀ (l : List Typ) (o : List Bnd), t ∈ l → Has (l.foldl (fun o t => addBs o (kBQ t)) o) k v
 | [], o, h => by simp at h
 | u :: l, o, h => by
   rw [List.foldl_cons]
   rcases List.mem_cons.1 h with q | q
   · rw [← q]; exact has_run l _ (has_bin _ _ hv)
   · exact has_runIn hv l _ q
theorem has_varsTy {t : Typ} (h : kAK t = true) {x : Lin} (hx : x ∈ t.shape.dims) {n : Str} (hn : n ∈ kAN x) : Has (kBQ t) 1 n := by
 have hs : kAL t.shape = true := by unfold kAK at h; rw [Bool.and_eq_true] at h; exact h.2
 have hv : Has (kCV t.shape) 1 n := by
  unfold kCV
  rw [if_pos hs]
  exact has_in _ _ (List.mem_flatMap.2 ⟨x, hx, hn⟩)
 unfold kBQ
 rw [if_pos h]
 split
 · exact hv.add _ _
 · exact hv
theorem has_sch {s : Sch} (h : kAJ s = true) {t : Typ} (ht : t ∈ allT s) {x : Lin} (hx : x ∈ t.shape.dims) {n : Str} (hn : n ∈ kAN x) : Has (kA1 s) 1 n := by
 unfold kA1
 rw [if_pos h]
 exact has_all _ _ (has_runIn (has_varsTy (kEI h t ht) hx hn) _ _ ht)
theorem has_wh {s : Sch} (h : kAJ s = true) {x : Lin} (hx : x ∈ s.wh) {n : Str} (hn : n ∈ kAN x) : Has (kA1 s) 1 n := by
 unfold kA1
 rw [if_pos h]
 exact has_in _ _ (List.mem_flatMap.2 ⟨x, hx, hn⟩)
def dval (l : List UInt8) : Nat := l.foldl (fun a c => a * 10 + (c.toNat - 48)) 0
theorem dval_dec (n : Nat) : dval (Lib.decDigits n) = n := by
 induction n using Nat.strongRecOn with
 | ind n ih =>
   rw [Lib.decDigits]
   split
   · next h =>
     show 0 * 10 + ((UInt8.ofNat (48 + n)).toNat - 48) = n
     rw [UInt8.toNat_ofNat_of_lt' (by show 48 + n < 256; omega)]; omega
   · next h =>
     have := ih (n / 10) (by omega)
     unfold dval at *
     rw [List.foldl_append, this]
     show n / 10 * 10 + ((UInt8.ofNat (48 + n % 10)).toNat - 48) = n
     rw [UInt8.toNat_ofNat_of_lt' (by show 48 + n % 10 < 256; omega)]; omega
theorem nm_inj {c : UInt8} {a b : Nat} (h : nm c a = nm c b) : a = b := by
 have e : (nm c a).data.toList = (nm c b).data.toList := by rw [h]
 rw [nm_list, nm_list, List.cons.injEq] at e
 have := congrArg dval e.2
 rwa [dval_dec, dval_dec] at this
theorem cnt_lt {l : List Bnd} {i j : Nat} (hij : i < j) (hj : j < l.length) (hk : (l.getD j default).kind = 1) : cntK 1 (l.take (i + 1)) < cntK 1 (l.take (j + 1)) := by
 have h1 : cntK 1 (l.take (j + 1)) = cntK 1 (l.take j) + 1 := by
  rw [kAU hj]
  unfold cntK
  rw [List.countP_append]
  generalize l.getD j default = z at *
  simp [hk]
 have h2 : cntK 1 (l.take (i + 1)) ≤ cntK 1 (l.take j) := by
  have e : l.take (i + 1) = (l.take j).take (i + 1) := by rw [List.take_take, Nat.min_eq_left (by omega)]
  rw [e]
  exact (List.take_sublist _ _).countP_le
 omega
def renF (l : List Bnd) (v : Str) : Str := nm 110 (cntK 1 (l.take ((ren l).findIdx (isB 1 v) + 1)))
theorem ren_hit {l : List Bnd} {v : Str} (h : Has l 1 v) : (ren l).any (isB 1 v) = true ∧ (ren l).findIdx (isB 1 v) < l.length ∧ (l.getD ((ren l).findIdx (isB 1 v)) default).kind = 1 ∧ (l.getD ((ren l).findIdx (isB 1 v)) default).v = v := by
 have ha : (ren l).any (isB 1 v) = true := by
  obtain ⟨y, hy, q⟩ := List.any_eq_true.1 h; obtain ⟨j, hj, e⟩ := List.getElem_of_mem hy
  have hd : l.getD j default = y := by rw [List.getD_eq_getElem?_getD, List.getElem?_eq_getElem hj]; exact e
  refine List.any_eq_true.2 ⟨(ren l).getD j default, kAI (by rw [kFB]; exact hj), ?_⟩
  rw [ren_at hj]
  unfold kE0
  have k := kGO (cntK (l.getD j default).kind (l.take (j + 1))) (l.getD j default); have q2 := isB_iff.1 q
  exact isB_iff.2 ⟨by rw [k.1, hd]; exact q2.1, by rw [k.2, hd]; exact q2.2⟩
 obtain ⟨h1, h2⟩ := kFH ha; rw [kFB] at h1; rw [ren_at h1] at h2; have h2 := isB_iff.1 h2
 generalize (ren l).findIdx (isB 1 v) = i at *
 unfold kE0 at h2
 have k := kGO (cntK (l.getD i default).kind (l.take (i + 1))) (l.getD i default); rw [k.1, k.2] at h2
 exact ⟨ha, h1, h2.1, h2.2⟩
theorem sub1_ren {l : List Bnd} {v : Str} (h : Has l 1 v) : sub1 (ren l) v = varL (renF l v) := by
 obtain ⟨h1, h2, h3, h4⟩ := ren_hit h
 unfold sub1 bndL renF
 rw [if_pos h1, if_pos h1, ren_at h2]
 generalize (ren l).findIdx (isB 1 v) = i at *
 unfold kE0 renB
 rw [if_pos h3, h3]
theorem renF_inj {l : List Bnd} {v w : Str} (h1 : Has l 1 v) (h2 : Has l 1 w) (h : renF l v = renF l w) : v = w := by
 obtain ⟨a1, a2, a3, a4⟩ := ren_hit h1; obtain ⟨b1, b2, b3, b4⟩ := ren_hit h2; have e := nm_inj h
 generalize (ren l).findIdx (isB 1 v) = i at *
 generalize (ren l).findIdx (isB 1 w) = j at *
 rcases Nat.lt_trichotomy i j with q | q | q
 · have := cnt_lt q b2 b3; omega
 · rw [← a4, ← b4, q]
 · have := cnt_lt q a2 a3; omega
theorem renF_name {s : Sch} (v : Str) : kBB (renF (kA1 s) v) = true := by
 unfold renF
 refine nm_name 110 (by decide) _ ?_
 have h1 := cnt_le 1 ((kA1 s).take ((ren (kA1 s)).findIdx (isB 1 v) + 1)); have h2 := kEJ (s := s); rw [List.length_take] at h1
 omega
theorem subRaw_ren {s : Sch} {x : Lin} (hx : kAD x = true) (hh : ∀ n ∈ kAN x, Has (kA1 s) 1 n) : kAD (kAF (ren (kA1 s)) x) = true := by
 have hv : ∀ t ∈ x.terms, Has (kA1 s) 1 t.v := fun t ht => hh _ (List.mem_map.2 ⟨t, ht, rfl⟩)
 refine subRaw_ok (f := renF (kA1 s)) hx (fun t ht => ⟨sub1_ren (hv t ht), renF_name _⟩) ?_
 refine (kBF hx).1.imp_of_mem (fun {a b} ha hb hab e => ?_)
 have := renF_inj (hv a ha) (hv b hb) e
 rw [this, kBZ] at hab
 cases hab
theorem row_none {b : List Bnd} (hp : kEZ b) (s : Shp) : (kCE b s).dims = [] := by
 unfold kCE
 split
 · rfl
 · split
   · next q => exact hp _ (find_hit q).1
   · rfl
theorem can_full {s : Sch} (h : kAJ s = true) : kEW s = true := by
 have hp := ren_plain (kCX h); obtain ⟨h1, h2, h3, h4, h5⟩ := kAT h
 have one : ∀ t ∈ allT s, kA5 (ren (kA1 s)) t.shape = true := fun t ht => by
  have hv := kFS (kEI h t ht)
  unfold kA5 dimsOk
  rw [Bool.and_eq_true, List.all_eq_true]
  refine ⟨fun x hx => subRaw_ren (hv.2.2.2 x hx) (fun n hn => has_sch h ht hx hn), decide_eq_true ?_⟩
  rw [row_none hp]
  have := hv.2.2.1
  simpa using this
 unfold kEW kBN
 rw [h, kGG h, Bool.true_and, Bool.true_and, Bool.and_eq_true, Bool.and_eq_true, List.all_eq_true, List.all_eq_true]
 refine ⟨fun t ht => one t (by unfold allT; exact List.mem_append.2 (.inl ht)), one _ (by unfold allT; exact List.mem_append.2 (.inr (List.mem_singleton.2 rfl))), fun x hx => subRaw_ren (h5 x hx) (fun n hn => has_wh h hx hn)⟩
theorem can_iff (s : Sch) : kEW s = kAJ s := by
 cases h : kAJ s with
 | true => exact can_full h
 | false => unfold kEW kBN; rw [h]; rfl
theorem good_iff (x : Ent) : goodE x = (kA0 x.name && kAJ x.scheme) := by
 unfold goodE; rw [can_iff, Bool.and_comm]
theorem can_err (s : Sch) (h : kAJ s = true) : kDY s = 0 := by rw [canErr_ok]; exact can_full h
def putE (m : List Ent) (k : Nat) (x : Ent) : List Ent := m.take k ++ [x] ++ m.drop k
theorem putE_map (m : List Ent) (k : Nat) (x : Ent) : (putE m k x).map canE = (m.map canE).take k ++ ([canE x] ++ (m.map canE).drop k) := by
 unfold putE
 rw [List.map_append, List.map_append, List.append_assoc, List.map_take, List.map_drop]; rfl
theorem putE_asc {m : List Ent} {k : Nat} {x : Ent} (ha : Asc m) (hb : ∀ j, j < k → j < m.length → slt (m.getD j default).name x.name = true) (hg : k < m.length → slt x.name (m.getD k default).name = true) : Asc (putE m k x) := by
 unfold putE Asc
 have hd : ∀ b ∈ m.drop k, slt x.name b.name = true := fun b hb => by
  obtain ⟨i, hi, rfl⟩ := List.getElem_of_mem hb; rw [List.length_drop] at hi
  have h0 := hg (by omega)
  rw [List.getD_eq_getElem?_getD, List.getElem?_eq_getElem (show k < m.length by omega)] at h0
  rw [List.getElem_drop]
  rcases Nat.eq_zero_or_pos i with q | q
  · subst q; exact h0
  · exact kBR h0 (List.pairwise_iff_getElem.1 ha k (k + i) (by omega) (by omega) (by omega))
 have ht : ∀ a ∈ m.take k, slt a.name x.name = true := fun a ha => by
  obtain ⟨i, hi, rfl⟩ := List.getElem_of_mem ha; rw [List.length_take] at hi
  have h0 := hb i (by omega) (by omega)
  rw [List.getD_eq_getElem?_getD, List.getElem?_eq_getElem (show i < m.length by omega)] at h0
  rw [List.getElem_take]; exact h0
 refine List.pairwise_append.2 ⟨List.pairwise_append.2 ⟨ha.sublist (List.take_sublist _ _), List.pairwise_singleton _ _, fun a h b hb => ?_⟩, ha.sublist (List.drop_sublist _ _), fun a h b hb => ?_⟩
 · rw [List.mem_singleton.1 hb]; exact ht a h
 · rcases List.mem_append.1 h with q | q
   · exact kBR (ht a q) (hd b hb)
   · rw [List.mem_singleton.1 q]; exact hd b hb
theorem putE_perm {m l : List Ent} {i k : Nat} (hp : m.Perm (l.take i)) (hi : i < l.length) : (putE m k (l.getD i default)).Perm (l.take (i + 1)) := by
 rw [kAU hi]
 unfold putE
 have h1 : (m.take k ++ [l.getD i default] ++ m.drop k).Perm (m.take k ++ m.drop k ++ [l.getD i default]) := by
  rw [List.append_assoc, List.append_assoc]
  exact (List.perm_append_comm).append_left _
 rw [List.take_append_drop] at h1
 exact h1.trans (hp.append_right _)
theorem dup_uni {m l : List Ent} {i k : Nat} (hp : m.Perm (l.take i)) (hi : i < l.length) (hk : k < m.length) (e : (m.getD k default).name = (l.getD i default).name) : ¬Uni l := fun u => by
 have hm := hp.mem_iff.1 (kAI hk); obtain ⟨j, hj, q⟩ := List.getElem_of_mem hm; rw [List.length_take] at hj; rw [List.getElem_take] at q; rw [← q, List.getD_eq_getElem?_getD, List.getElem?_eq_getElem hi] at e
 exact List.pairwise_iff_getElem.1 u j i (by omega) hi (by omega) e
def Made (l : List Ent) (i : Nat) (m : List Ent) : Prop := m.Perm (l.take i) ∧ Asc m
theorem Made.nil (l : List Ent) : Made l 0 [] := ⟨by rw [List.take_zero], List.Pairwise.nil⟩
theorem Made.len {l m : List Ent} {i : Nat} (h : Made l i m) (hi : i ≤ l.length) : m.length = i := by rw [h.1.length_eq, List.length_take]; omega
theorem Made.put {l m : List Ent} {i k : Nat} (h : Made l i m) (hi : i < l.length) (hb : ∀ j, j < k → slt (m.getD j default).name (l.getD i default).name = true) (hk : k < m.length → slt (m.getD k default).name (l.getD i default).name = false ∧ seq (m.getD k default).name (l.getD i default).name = false) : Made l (i + 1) (putE m k (l.getD i default)) :=
 ⟨putE_perm h.1 hi, putE_asc h.2 (fun j hj _ => hb j hj) (fun q => by
   obtain ⟨h1, h2⟩ := hk q
   cases e : slt (l.getD i default).name (m.getD k default).name with
   | true => rfl
   | false =>
     have := kCO h1 e
     rw [this, (kA7 _ _).2 rfl] at h2
     cases h2)⟩
theorem made_bad {mod : Str} {l : List Ent} (h : kA0 mod = false) : Says mod l kCL 1 := .inl ⟨by unfold mkOk; rw [h]; rfl, rfl, rfl⟩
theorem made_bad2 {mod : Str} {l : List Ent} {i : Nat} (hi : i < l.length) (h : (kA0 (l.getD i default).name && kAJ (l.getD i default).scheme) = false) : Says mod l kCL 1 := .inl ⟨by
 unfold mkOk
 have : l.all goodE = false := by
  rw [Bool.eq_false_iff]
  intro q
  have := List.all_eq_true.1 q _ (kAI hi)
  rw [good_iff, h] at this
  cases this
 rw [this, Bool.and_false], rfl, rfl⟩
theorem ok_all {mod : Str} {l : List Ent} (hm : kA0 mod = true) (h : ∀ i, i < l.length → (kA0 (l.getD i default).name && kAJ (l.getD i default).scheme) = true) : mkOk mod l = true := by
 unfold mkOk
 rw [hm, Bool.true_and, List.all_eq_true]
 intro x hx
 obtain ⟨i, hi, e⟩ := List.getElem_of_mem hx
 have := h i hi
 rw [List.getD_eq_getElem?_getD, List.getElem?_eq_getElem hi] at this
 rw [good_iff, ← e]; exact this
theorem made_twice {mod : Str} {l m : List Ent} {i k : Nat} (hok : mkOk mod l = true) (h : Made l i m) (hi : i < l.length) (hk : k < m.length) (e : seq (m.getD k default).name (l.getD i default).name = true) : Says mod l kCL 8 :=
 .inr (.inl ⟨hok, dup_uni h.1 hi hk ((kA7 _ _).1 e), rfl, rfl⟩)
theorem made_done {mod : Str} {l m : List Ent} (hok : mkOk mod l = true) (h : Made l l.length m) : Says mod l ⟨mod, m.map canE⟩ 0 :=
 have hp : m.Perm l := by have := h.1; rwa [List.take_length] at this
 .inr (.inr ⟨hok, (asc_uni h.2).perm hp, rfl, m, hp, h.2, rfl⟩)
theorem says_uniq {mod : Str} {l : List Ent} {A B : Ifc} {e f : Int} (h : Says mod l A e) (h' : Says mod l B f) : e = f ∧ A = B := by
 have := says_same (f := id) (l' := l) h (by rw [List.map_id]; exact h') (List.Perm.refl _) (fun x _ => ⟨rfl, rfl, rfl⟩)
 exact this
theorem ref24_digit (c : Int) (w : World) : Calls Tryz.prog 82 #[.int .u8 c] w fun e w' => e = .returned (.bool (kA3 c)) ∧ w = w' := by
 unfold kA3
 by_cases h0 : 48 ≤ c <;> by_cases h1 : c ≤ 57
 all_goals
  go_enter func82, ntmps82
  go_wp2_with fail
  go_ret
  exact ⟨by simp [h0, h1], rfl⟩
theorem kEN (c : Int) (w : World) : Calls Tryz.prog 81 #[.int .u8 c] w fun e w' => e = .returned (.bool (kA6 c)) ∧ w = w' := by
 unfold kA6
 by_cases h0 : 97 ≤ c <;> by_cases h1 : c ≤ 122
 all_goals
  go_enter func81, ntmps81
  go_wp2_with fail
  go_ret
  exact ⟨by simp [h0, h1], rfl⟩
theorem ref24_Reserved (s : Str) (w : World) : Calls Tryz.prog 83 #[.string s] w fun e w' => e = .returned (.bool (kAR s)) ∧ w = w' := by
 have HR : Hid (kAR s = kAW.any (fun r => s.toList == r)) := hJ rfl
 by_cases h0 : (s.toList == [98, 111, 111, 108]) = true
 case pos =>
  have HF : Hid (kAR s = true) := hJ (by rw [HR.out]; simp only [kAW, List.any_cons, h0, Bool.or_true, Bool.true_or])
  go_enter func83, ntmps83
  go_wp2_with fail
  go_ret
  exact ⟨by rw [HF.out]; rfl, rfl⟩
 have h0 : (s.toList == [98, 111, 111, 108]) = false := by simpa using h0
 by_cases h1 : (s.toList == [100, 101, 102]) = true
 case pos =>
  have HF : Hid (kAR s = true) := hJ (by rw [HR.out]; simp only [kAW, List.any_cons, h1, Bool.or_true, Bool.true_or])
  go_enter func83, ntmps83
  go_wp2_with fail
  go_ret
  exact ⟨by rw [HF.out]; rfl, rfl⟩
 have h1 : (s.toList == [100, 101, 102]) = false := by simpa using h1
 by_cases h2 : (s.toList == [101, 120, 112, 111, 114, 116]) = true
 case pos =>
  have HF : Hid (kAR s = true) := hJ (by rw [HR.out]; simp only [kAW, List.any_cons, h2, Bool.or_true, Bool.true_or])
  go_enter func83, ntmps83
  go_wp2_with fail
  go_ret
  exact ⟨by rw [HF.out]; rfl, rfl⟩
 have h2 : (s.toList == [101, 120, 112, 111, 114, 116]) = false := by simpa using h2
 by_cases h3 : (s.toList == [102, 97, 108, 115, 101]) = true
 case pos =>
  have HF : Hid (kAR s = true) := hJ (by rw [HR.out]; simp only [kAW, List.any_cons, h3, Bool.or_true, Bool.true_or])
  go_enter func83, ntmps83
  go_wp2_with fail
  go_ret
  exact ⟨by rw [HF.out]; rfl, rfl⟩
 have h3 : (s.toList == [102, 97, 108, 115, 101]) = false := by simpa using h3
 by_cases h4 : (s.toList == [102, 111, 108, 100]) = true
 case pos =>
  have HF : Hid (kAR s = true) := hJ (by rw [HR.out]; simp only [kAW, List.any_cons, h4, Bool.or_true, Bool.true_or])
  go_enter func83, ntmps83
  go_wp2_with fail
  go_ret
  exact ⟨by rw [HF.out]; rfl, rfl⟩
 have h4 : (s.toList == [102, 111, 108, 100]) = false := by simpa using h4
 by_cases h5 : (s.toList == [105, 109, 112, 111, 114, 116]) = true
 case pos =>
  have HF : Hid (kAR s = true) := hJ (by rw [HR.out]; simp only [kAW, List.any_cons, h5, Bool.or_true, Bool.true_or])
  go_enter func83, ntmps83
  go_wp2_with fail
  go_ret
  exact ⟨by rw [HF.out]; rfl, rfl⟩
 have h5 : (s.toList == [105, 109, 112, 111, 114, 116]) = false := by simpa using h5
 by_cases h6 : (s.toList == [105, 110]) = true
 case pos =>
  have HF : Hid (kAR s = true) := hJ (by rw [HR.out]; simp only [kAW, List.any_cons, h6, Bool.or_true, Bool.true_or])
  go_enter func83, ntmps83
  go_wp2_with fail
  go_ret
  exact ⟨by rw [HF.out]; rfl, rfl⟩
 have h6 : (s.toList == [105, 110]) = false := by simpa using h6
 by_cases h7 : (s.toList == [105, 110, 116]) = true
 case pos =>
  have HF : Hid (kAR s = true) := hJ (by rw [HR.out]; simp only [kAW, List.any_cons, h7, Bool.or_true, Bool.true_or])
  go_enter func83, ntmps83
  go_wp2_with fail
  go_ret
  exact ⟨by rw [HF.out]; rfl, rfl⟩
 have h7 : (s.toList == [105, 110, 116]) = false := by simpa using h7
 by_cases h8 : (s.toList == [108, 101, 116]) = true
 case pos =>
  have HF : Hid (kAR s = true) := hJ (by rw [HR.out]; simp only [kAW, List.any_cons, h8, Bool.or_true, Bool.true_or])
  go_enter func83, ntmps83
  go_wp2_with fail
  go_ret
  exact ⟨by rw [HF.out]; rfl, rfl⟩
 have h8 : (s.toList == [108, 101, 116]) = false := by simpa using h8
 by_cases h9 : (s.toList == [109, 111, 100, 117, 108, 101]) = true
 case pos =>
  have HF : Hid (kAR s = true) := hJ (by rw [HR.out]; simp only [kAW, List.any_cons, h9, Bool.or_true, Bool.true_or])
  go_enter func83, ntmps83
  go_wp2_with fail
  go_ret
  exact ⟨by rw [HF.out]; rfl, rfl⟩
 have h9 : (s.toList == [109, 111, 100, 117, 108, 101]) = false := by simpa using h9
 by_cases h10 : (s.toList == [115, 99, 97, 110]) = true
 case pos =>
  have HF : Hid (kAR s = true) := hJ (by rw [HR.out]; simp only [kAW, List.any_cons, h10, Bool.or_true, Bool.true_or])
  go_enter func83, ntmps83
  go_wp2_with fail
  go_ret
  exact ⟨by rw [HF.out]; rfl, rfl⟩
 have h10 : (s.toList == [115, 99, 97, 110]) = false := by simpa using h10
 by_cases h11 : (s.toList == [115, 105, 122, 101]) = true
 case pos =>
  have HF : Hid (kAR s = true) := hJ (by rw [HR.out]; simp only [kAW, List.any_cons, h11, Bool.or_true, Bool.true_or])
  go_enter func83, ntmps83
  go_wp2_with fail
  go_ret
  exact ⟨by rw [HF.out]; rfl, rfl⟩
 have h11 : (s.toList == [115, 105, 122, 101]) = false := by simpa using h11
 by_cases h12 : (s.toList == [116, 114, 117, 101]) = true
 case pos =>
  have HF : Hid (kAR s = true) := hJ (by rw [HR.out]; simp only [kAW, List.any_cons, h12, Bool.or_true, Bool.true_or])
  go_enter func83, ntmps83
  go_wp2_with fail
  go_ret
  exact ⟨by rw [HF.out]; rfl, rfl⟩
 have h12 : (s.toList == [116, 114, 117, 101]) = false := by simpa using h12
 by_cases h13 : (s.toList == [119, 104, 101, 114, 101]) = true
 case pos =>
  have HF : Hid (kAR s = true) := hJ (by rw [HR.out]; simp only [kAW, List.any_cons, h13, Bool.or_true, Bool.true_or])
  go_enter func83, ntmps83
  go_wp2_with fail
  go_ret
  exact ⟨by rw [HF.out]; rfl, rfl⟩
 have h13 : (s.toList == [119, 104, 101, 114, 101]) = false := by simpa using h13
 have HF : Hid (kAR s = false) := hJ (by rw [HR.out]; simp only [kAW, List.any_cons, List.any_nil, h0, h1, h2, h3, h4, h5, h6, h7, h8, h9, h10, h11, h12, h13, Bool.or_false])
 go_enter func83, ntmps83
 go_wp2_with fail
 go_ret
 exact ⟨by rw [HF.out]; rfl, rfl⟩
def kFV (s : Str) (k : Nat) : Bool := kA6 (bt s k) || (k != 0 && kA3 (bt s k))
theorem name_all {s : Str} (h : 0 < s.size) : (List.range s.size).all (kFV s) = (kA6 (bt s 0) && (List.range s.size).all (runB s)) := by
 rw [Bool.eq_iff_iff, Bool.and_eq_true, List.all_eq_true, List.all_eq_true]
 constructor
 · intro q
   refine ⟨?_, fun k hk => ?_⟩
   · have := q 0 (List.mem_range.2 h)
     unfold kFV at this
     simpa using this
   · have := q k hk
     unfold kFV at this
     unfold runB
     rw [Bool.or_eq_true] at this ⊢
     rcases this with r | r
     · exact .inr r
     · rw [Bool.and_eq_true] at r; exact .inl r.2
 · rintro ⟨q0, q⟩ k hk
   have := q k hk
   unfold runB at this
   unfold kFV
   rw [Bool.or_eq_true] at this ⊢
   rcases Nat.eq_zero_or_pos k with r | r
   · subst r; exact .inl q0
   · rcases this with u | u
     · exact .inr (by rw [u]; simp; omega)
     · exact .inl u
theorem kBH (s : Str) (w : World) (hsz : s.size ≤ 281474976710656) : Calls Tryz.prog 37 #[.string s] w fun e w' => e = .returned (.bool (kA0 s)) ∧ w = w' := by
 have HN : Hid (kA0 s = (decide (1 ≤ s.size ∧ s.size ≤ 30) && (kA6 (bt s 0) && ((List.range s.size).all (runB s) && !kAR s)))) := hJ rfl
 have HA := hJ (fun h => name_all (s := s) h)
 go_enter func37, ntmps37
 go_wp2_with fail
 go_loopw [3] (fun i wr => ∃ k : Nat, k ≤ s.size ∧ i = .int .i64 k ∧ Hid (∀ j, j < k → kFV s j = true) ∧ w = wr) (fun i _ => s.size - (intOf i).toNat)
 case atStart => exact ⟨0, by omega, rfl, hJ (fun j hj => absurd hj (by omega)), rfl⟩
 case round =>
  obtain ⟨k, hk, rfl, HT, rfl⟩ := hrel
  by_cases hlt : k < s.size
  · have q1 : decide ((k : Int) < (s.size : Int)) = true := decide_eq_true (by omega)
    have gk := kFD s k hlt
    have HR : Hid (kFV s k = (kA6 (bt s k) || (k != 0 && kA3 (bt s k)))) := hJ rfl
    have HG : Hid (kFV s k = true → ∀ j, j < k + 1 → kFV s j = true) := hJ (fun q j hj => by
     rcases Nat.lt_or_ge j k with r | r
     · exact HT.out j r
     · obtain rfl : j = k := by omega
       exact q)
    have HBd : Hid (kFV s k = false → kA0 s = false) := hJ (fun q => by
     rw [HN.out]
     have h2 : (kA6 (bt s 0) && (List.range s.size).all (runB s)) = false := by
      rw [← HA.out (by omega)]; exact kD1 hlt q
     rw [← Bool.and_assoc (kA6 _), h2]; simp)
    generalize bt s k = c at *
    by_cases hl : kA6 c = true
    · have HGo := hJ (HG.out (by rw [HR.out, hl]; rfl))
      go_wp2_with fail
      refine (kEN _ _).mono ?_
      rintro e _ ⟨rfl, rfl⟩
      go_wp2_with fail
      go_roundw
      case rel => exact ⟨k + 1, by omega, by go_num, HGo, trivial⟩
      case measure => simp [intOf]; omega
    · have hl : kA6 c = false := by simpa using hl
      cases k with
      | zero =>
        have HF := hJ (HBd.out (by rw [HR.out, hl]; rfl))
        go_wp2_with fail
        refine (kEN _ _).mono ?_
        rintro e _ ⟨rfl, rfl⟩
        go_wp2_with fail
        go_ret
        exact ⟨by rw [HF.out]; rfl, rfl⟩
      | succ k =>
        have hk0 : (((k + 1 : Nat) : Int) == 0) = false := beq_eq_false_iff_ne.2 (by omega)
        by_cases hd : kA3 c = true
        · have HGo := hJ (HG.out (by rw [HR.out, hl, hd]; rfl))
          go_wp2_with fail
          refine (kEN _ _).mono ?_
          rintro e _ ⟨rfl, rfl⟩
          go_wp2_with fail
          refine (ref24_digit _ _).mono ?_
          rintro e _ ⟨rfl, rfl⟩
          go_wp2_with fail
          go_roundw
          case rel => exact ⟨k + 1 + 1, by omega, by go_num, HGo, trivial⟩
          case measure => simp [intOf]; omega
        · have hd : kA3 c = false := by simpa using hd
          have HF := hJ (HBd.out (by rw [HR.out, hl, hd]; rfl))
          go_wp2_with fail
          refine (kEN _ _).mono ?_
          rintro e _ ⟨rfl, rfl⟩
          go_wp2_with fail
          refine (ref24_digit _ _).mono ?_
          rintro e _ ⟨rfl, rfl⟩
          go_wp2_with fail
          go_ret
          exact ⟨by rw [HF.out]; rfl, rfl⟩
  · have HAl : Hid ((List.range s.size).all (kFV s) = true) := hJ (kCH (fun j hj => HT.out j (by omega)))
    have q1 : decide ((k : Int) < (s.size : Int)) = false := decide_eq_false (by omega)
    by_cases h1 : 1 ≤ s.size
    · by_cases h30 : s.size ≤ 30
      · have HF : Hid (kA0 s = !kAR s) := hJ (by
         have h2 := HAl.out
         rw [HA.out (by omega), Bool.and_eq_true] at h2
         rw [HN.out, h2.1, h2.2, decide_eq_true ⟨h1, h30⟩]; rfl)
        go_wp2_with fail
        refine (ref24_Reserved _ _).mono ?_
        rintro e _ ⟨rfl, rfl⟩
        go_wp2_with fail
        go_ret
        exact ⟨by rw [HF.out]; rfl, rfl⟩
      · have HF : Hid (kA0 s = false) := hJ (by rw [HN.out, decide_eq_false (by omega)]; rfl)
        go_wp2_with fail
        go_ret
        exact ⟨by rw [HF.out]; rfl, rfl⟩
    · have HF : Hid (kA0 s = false) := hJ (by rw [HN.out, decide_eq_false (by omega)]; rfl)
      go_wp2_with fail
      go_ret
      exact ⟨by rw [HF.out]; rfl, rfl⟩
theorem kF6 {S : Blk} {x : Ifc} {a : Option Addr} {c : Nat} {w : World} (hs : Sl REnt S w a x.entries.length c x.entries) (hz : ∀ e ∈ x.entries, szS e.scheme ∧ e.name.size ≤ 281474976710656 ∧ e.scheme.params.length ≤ 1000000) (hmz : x.module_.size ≤ 281474976710656) :
 Calls Tryz.prog 18 #[.agg #[.string x.module_, .slice a x.entries.length c]] w fun e w' => e = .returned (.bool (kAS x)) ∧ Below w.heap.size w w' := by
 have hm := hs.small; have HZ := hJ hz; have H := hJ hs; clear hz hs
 generalize hl1 : x.entries.length = n at *
 have HL := hJ hl1; clear hl1; obtain ⟨B0, ya, hW0⟩ := box1 w 24 [.string x.module_, .slice a n c]; have xa0 := box0 ya 0 _ rfl; have xa1 := box0 ya 1 _ rfl; clear ya
 go_enter func18, ntmps18
 cases hmn : kA0 x.module_ with
 | false =>
   have HF : Hid (kAS x = false) := hJ (by unfold kAS; rw [hmn]; simp)
   go_wp2_with fail
   refine (kBH _ _ hmz).mono ?_
   rintro e _ ⟨rfl, rfl⟩
   go_wp2_with fail
   go_ret
   exact ⟨by rw [HF.out]; rfl, B0.out⟩
 | true =>
 by_cases h60 : n ≤ 60
 case neg =>
  have HF : Hid (kAS x = false) := hJ (by unfold kAS; rw [HL.out, decide_eq_false h60]; simp)
  have h61 : (60 : Int) < (n : Int) := by omega
  go_wp2_with fail
  refine (kBH _ _ hmz).mono ?_
  rintro e _ ⟨rfl, rfl⟩
  go_wp2_with fail
  go_ret
  exact ⟨by rw [HF.out]; rfl, B0.out⟩
 have h61 : ¬((60 : Int) < (n : Int)) := by omega
 go_wp2_with fail
 refine (kBH _ _ hmz).mono ?_
 rintro e _ ⟨rfl, rfl⟩
 go_wp2_with fail
 generalize (w.alloc (.cells #[.string x.module_, .slice a n c] 24)) = W at *
 have H0 := hJ (H.out.below B0.out)
 go_loopw [3] (fun i wr => ∃ k : Nat, k ≤ n ∧ i = .int .i64 k ∧ Hid (∀ j, j < k → entAt x.entries j = true) ∧ Below W.heap.size W wr) (fun i _ => n - (intOf i).toNat)
 case atStart => exact ⟨0, Nat.zero_le _, rfl, fun j hj => absurd hj (by omega), Below.refl _ _⟩
 case round =>
  obtain ⟨k, hk, rfl, HT, hB⟩ := hrel; have d0 := kAC xa0 _ hB; have d1 := kAC xa1 _ hB
  by_cases hlt : k < n
  · obtain ⟨b, off, rfl, hbW, _⟩ := H0.out.form k hlt
    have HR := hJ (H0.out.below hB); obtain ⟨_, _, _, hr, ⟨⟨ap, cp, rfl, _⟩, ⟨at_, ct, rfl, _⟩, ⟨aq, cq, rfl, _⟩⟩, c0, c1, c2, c3, c4, c5⟩ := HR.out.ent k hlt; obtain ⟨_, e1, hr⟩ := hr
    cases e1
    have HK : Hid (k < x.entries.length) := hJ (by rw [HL.out]; exact hlt)
    have HTK : Hid (entAt x.entries k = (kA0 (x.entries.getD k default).name && (kAJ (x.entries.getD k default).scheme && (k == 0 || slt (x.entries.getD (k - 1) default).name (x.entries.getD k default).name)))) := hJ rfl
    have hzt := HZ.out _ (kAI HK.out); have HRd := hJ hr; clear hr
    generalize x.entries.getD k default = t at *
    have hzn := hzt.2.1; have HPs := hJ hzt.2.2; have HZs := hJ hzt.1; clear hzt
    go_wp2_with fail
    have hB2 : Below W.heap.size W (wr.alloc (.cells #[.string t.name, .slice ap t.scheme.params.length cp, .string t.scheme.result.elem, .string t.scheme.result.shape.row, .slice at_ t.scheme.result.shape.dims.length ct, .slice aq t.scheme.wh.length cq] 44)) := hB.alloc hB.size _
    have hb2 : Below wr.heap.size wr (wr.alloc (.cells #[.string t.name, .slice ap t.scheme.params.length cp, .string t.scheme.result.elem, .string t.scheme.result.shape.row, .slice at_ t.scheme.result.shape.dims.length ct, .slice aq t.scheme.wh.length cq] 44)) := (Below.refl _ _).alloc (Nat.le_refl _) _
    have hbx := Bx.fresh wr 44 [.string t.name, .slice ap t.scheme.params.length cp, .string t.scheme.result.elem, .string t.scheme.result.shape.row, .slice at_ t.scheme.result.shape.dims.length ct, .slice aq t.scheme.wh.length cq]; have v0 := hbx.cell 0 _ rfl; have v1 := hbx.cell 1 _ rfl; have v2 := hbx.cell 2 _ rfl; have v3 := hbx.cell 3 _ rfl; have v4 := hbx.cell 4 _ rfl; have v5 := hbx.cell 5 _ rfl; have hx1 := kAC xa1 _ hB2; have HRd := hJ (RSch.below HRd.out hb2); clear c0 c1 c2 c3 c4 c5 xa0 xa1 d0 d1 hbx hb2
    generalize (wr.alloc (.cells #[.string t.name, .slice ap t.scheme.params.length cp, .string t.scheme.result.elem, .string t.scheme.result.shape.row, .slice at_ t.scheme.result.shape.dims.length ct, .slice aq t.scheme.wh.length cq] 44)) = w2 at *
    have HB2 := hJ hB2; clear hB hB2
    have HC := hJ (fun t9 : Later w2 => kB0 (RSch.below HRd.out t9.b) HZs.out HPs.out)
    have v0 := Later.cell v0; have v1 := Later.cell v1; have v2 := Later.cell v2; have v3 := Later.cell v3; have v4 := Later.cell v4; have v5 := Later.cell v5; have hx1 := Later.cell hx1
    cases hnm : kA0 t.name with
    | false =>
      have HF : Hid (kAS x = false) := hJ (kCJ HK.out (by rw [HTK.out, hnm]; rfl))
      refine kAB (by kernel_rfl) (by kernel_rfl) ?_
      repeat (go_big_quiet_step (first | fail | exact Later.same (kBH _ _ hzn) | exact Later.call (HC.out _)))
      refine wpQuiet_nil ?_
      rintro _ ⟨t9, rfl⟩
      go_wp2_with fail
      go_ret
      exact ⟨by rw [HF.out]; rfl, B0.out.trans ((HB2.out.trans (t9.b.mono HB2.out.size)).mono B0.out.size)⟩
    | true =>
      cases hv : kAJ t.scheme with
      | false =>
        have HF : Hid (kAS x = false) := hJ (kCJ HK.out (by rw [HTK.out, hnm, hv]; rfl))
        refine kAB (by kernel_rfl) (by kernel_rfl) ?_
        repeat (go_big_quiet_step (first | fail | exact Later.same (kBH _ _ hzn) | exact Later.call (HC.out _)))
        refine wpQuiet_nil ?_
        rintro _ ⟨t9, rfl⟩
        go_wp2_with fail
        go_ret
        exact ⟨by rw [HF.out]; rfl, B0.out.trans ((HB2.out.trans (t9.b.mono HB2.out.size)).mono B0.out.size)⟩
      | true =>
        cases k with
        | zero =>
          have HO : Hid (entAt x.entries 0 = true) := hJ (by rw [HTK.out, hnm, hv]; rfl)
          refine kAB (by kernel_rfl) (by kernel_rfl) ?_
          repeat (go_big_quiet_step (first | fail | exact Later.same (kBH _ _ hzn) | exact Later.call (HC.out _)))
          refine wpQuiet_nil ?_
          rintro _ ⟨t9, rfl⟩
          go_wp2_with fail
          go_roundw
          case rel => exact ⟨1, by omega, by go_num, hJ (fun j hj => (by omega : j = 0) ▸ HO.out), HB2.out.trans (t9.b.mono HB2.out.size)⟩
          case measure => simp [intOf]; omega
        | succ k =>
          obtain ⟨_, _, _, _, _, hp, _⟩ := (H0.out.below HB2.out).ent k (by omega)
          have hp := Later.cell hp
          have hk0 : (0 : Int) < ((k + 1 : Nat) : Int) := by omega
          have hki : (((k + 1 : Nat) : Int) - 1) = (k : Int) := by omega
          simp only [Nat.add_sub_cancel] at HTK
          generalize x.entries.getD k default = p at *
          by_cases ho : Op.bytesLess p.name.toList t.name.toList = true
          · have HO : Hid (entAt x.entries (k + 1) = true) := hJ (by rw [HTK.out, hnm, hv]; simpa [slt] using ho)
            refine kAB (by kernel_rfl) (by kernel_rfl) ?_
            repeat (go_big_quiet_step (first | fail | exact Later.same (kBH _ _ hzn) | exact Later.call (HC.out _)))
            refine wpQuiet_nil ?_
            rintro _ ⟨t9, rfl⟩
            go_wp2_with fail
            go_roundw
            case rel => exact ⟨k + 1 + 1, by omega, by go_num, hJ (upto HT.out HO.out), HB2.out.trans (t9.b.mono HB2.out.size)⟩
            case measure => simp [intOf]; omega
          · have ho : Op.bytesLess p.name.toList t.name.toList = false := by simpa using ho
            have HF : Hid (kAS x = false) := hJ (kCJ HK.out (by rw [HTK.out, hnm, hv]; simpa [slt] using ho))
            refine kAB (by kernel_rfl) (by kernel_rfl) ?_
            repeat (go_big_quiet_step (first | fail | exact Later.same (kBH _ _ hzn) | exact Later.call (HC.out _)))
            refine wpQuiet_nil ?_
            rintro _ ⟨t9, rfl⟩
            go_wp2_with fail
            go_ret
            exact ⟨by rw [HF.out]; rfl, B0.out.trans ((HB2.out.trans (t9.b.mono HB2.out.size)).mono B0.out.size)⟩
  · obtain rfl : k = n := by omega
    have HF : Hid (kAS x = true) := hJ (by rw [kGI (fun j hj => HT.out j (by rw [HL.out] at hj; exact hj)), HL.out, hmn, decide_eq_true h60]; rfl)
    have hx0 := kAC xa0 _ hB; have hx1 := kAC xa1 _ hB
    go_wp2_with fail
    go_ret
    exact ⟨by rw [HF.out]; rfl, B0.out.trans (hB.mono B0.out.size)⟩
theorem run_upto {P : Program} {T E : TypeId} {size bytes : Nat} (he : ElemOf P T E size bytes) (W : World) (a : Option Addr) (m co k : Nat) (hk : k ≤ co) : (Instr.slice T (.slice a m co) none (some (.int .i64 k)) none).run P W = .ok (.slice (if co = 0 then a else a.map (·.add (0 * size))) k co) W := by
 have h1 : (Instr.sliceBounds true m co none (some (.int .i64 k)) none).run P W = .ok (0, k, co) W := by
  simp [Instr.sliceBounds, Instr.sliceBound, asIntOf, hk]
 obtain ⟨i0, z0, hi, hz, hs, hb, hzs⟩ := he.parts; subst hs
 simp only [Instr.slice, run_underlying he.slice, Sem.run_bind, Result.andThen_ok, h1, sizeOf, typeInfo]
 simp [hi]
theorem run_from {P : Program} {T E : TypeId} {size bytes : Nat} (he : ElemOf P T E size bytes) (W : World) (a : Option Addr) (m co k : Nat) (hk : k ≤ m) : (Instr.slice T (.slice a m co) (some (.int .i64 k)) none none).run P W = .ok (.slice (if co = k then a else a.map (·.add (k * size))) (m - k) (co - k)) W := by
 have h1 : (Instr.sliceBounds true m co (some (.int .i64 k)) none none).run P W = .ok (k, m, co) W := by
  simp [Instr.sliceBounds, Instr.sliceBound, asIntOf, hk]
 obtain ⟨i0, z0, hi, hz, hs, hb, hzs⟩ := he.parts; subst hs
 simp only [Instr.slice, run_underlying he.slice, Sem.run_bind, Result.andThen_ok, h1, sizeOf, typeInfo]
 simp [hi]
theorem Els.take {α : Type} {R : Rep α} {S : Blk} {w : World} {a : Option Addr} {n c : Nat} {l : List α} (h : Els R S w a n c l) (m : Nat) (hm : m ≤ n) : Els R S w a m c (l.take m) :=
 ⟨by rw [List.length_take, h.len]; omega, by have := h.cap; omega, h.max, h.nil, fun i x hx => by
   rw [List.getElem?_take] at hx
   split at hx
   · exact h.at_ i x hx
   · cases hx⟩
theorem els_cut {α : Type} {R : Rep α} {P : Program} {T E : TypeId} {bytes : Nat} (he : ElemOf P T E R.size bytes) {S : Blk} {w : World} {a : Option Addr} {n c : Nat} {l : List α} (h : Els R S w a n c l) (p : Nat) (hp : p ≤ n) (h0 : n = 0 → a = none) (h1 : 0 < n → ∃ g og, a = some ⟨g, og, none⟩) :
 ∃ a1 c1 a2 c2, (∀ W, (Instr.slice T (.slice a n c) none (some (.int .i64 p)) none).run P W = .ok (.slice a1 p c1) W) ∧ (∀ W, (Instr.slice T (.slice a n c) (some (.int .i64 p)) none none).run P W = .ok (.slice a2 (n - p) c2) W) ∧ Hid (Els R S w a1 p c1 (l.take p)) ∧ Hid (Els R S w a2 (n - p) c2 (l.drop p)) := by
 have hc := h.cap
 refine ⟨_, _, _, _, fun W => run_upto he W a n c p (by omega), fun W => run_from he W a n c p hp, hJ ?_, hJ ?_⟩
 · rcases Nat.eq_zero_or_pos n with hn | hn
   · obtain rfl := h0 hn
     have := h.take p hp
     split <;> exact this
   · obtain ⟨g, og, rfl⟩ := h1 hn
     have := h.take p hp
     split
     · exact this
     · rw [Option.map_some, kG2, Nat.zero_mul, Nat.add_zero]; exact this
 · split
   · have : p = n := by omega
     subst this
     rw [List.drop_of_length_le (by rw [h.len]; exact Nat.le_refl _), Nat.sub_self, show c - p = 0 by omega]
     exact Els.none (Nat.zero_le _) (fun _ => rfl)
   · rcases Nat.eq_zero_or_pos n with hn | hn
     · have := h.nil (h0 hn); omega
     · obtain ⟨g, og, rfl⟩ := h1 hn
       rw [Option.map_some, kG2]
       exact h.drop p hp
end Go.Proofs.YtjongcdlginjlaaGreatDoor
