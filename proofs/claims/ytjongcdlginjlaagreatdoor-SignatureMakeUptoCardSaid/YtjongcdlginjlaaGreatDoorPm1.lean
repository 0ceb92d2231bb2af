/- The claim's texts, part 1: contracts of the functions that the statement reaches, and what they say of the data. -/
import Derived.WalkKit
import Derived.WalkSmall
import Derived.Lib.Hide
import Derived.Laws.AppendOwnNone
import Derived.Laws.OwnMore
import Derived.Maps.AppendAt
import Derived.Deep.DeepAppendRoom
import Derived.Deep.QuietTactic
import Derived.BigQuiet
import Derived.Shelf.Spec.SlicesGrow
import Derived.Shelf.Strings.Builder1
import Derived.Shelf.Strings.Builder2
import Derived.Shelf.Strings.OnBuilder
import Derived.Shelf.Strings.Trim
import Derived.Shelf.Small.Utf8
import Derived.Shelf.Small.Bits
import Derived.Shelf.Small.Strs
import Derived.Shelf.Strings.BuilderF
import Derived.Shelf.Strings.BuilderK
import Derived.Shelf.Strings.Builder2Cap
import Derived.Shelf.Strconv.Atoi
import Derived.Shelf.Strconv.Itoa0
import Derived.Shelf.Strconv.Itoa1
import Derived.Shelf.LaysM
import Derived.Shelf.Strconv.Itoa2
import Derived.Shelf.Strconv.Itoa3
import Derived.Shelf.Strconv.AtoiErrFast
import Derived.Shelf.Strconv.ParseIntEmpty
import Derived.Shelf.Strconv.AtoiFail
import Derived.Shelf.Strconv.Clone
import Derived.Shelf.Strconv.SyntaxError
import Derived.Shelf.LaysC
import Derived.Shelf.Strconv.ToError
import Derived.Shelf.Strconv.AtoiErr
import Derived.Shelf.Strconv.ErrVar
import Derived.Shelf.Strconv.Lower
import Derived.Shelf.Strconv.ParseUint10
import Derived.Shelf.Strconv.ParseUint10Empty
import Derived.Shelf.Strconv.ParseUint10Any
import Derived.Shelf.Strconv.ParseInt10
import Derived.Shelf.Strconv.AtoiLong
import Derived.Shelf.Strconv.AtoiInnerAll
import Derived.Shelf.Strconv.RangeError
import Derived.Shelf.Strconv.ToErrorRange
import Derived.Shelf.Strconv.AtoiAll
import Derived.Shelf.Strconv.ErrVarAll
import Derived.Shelf.Strconv.ParseUintEmpty
import Derived.Shelf.Strconv.ParseUint10b64
import Derived.Shelf.Strconv.ParseUint10b32
import Derived.Shelf.Strconv.ParseUint10b16
import Derived.Shelf.Strconv.ParseUint10b8
import Derived.Shelf.Strconv.ParseUint10At
import Derived.Shelf.Strconv.ParseInt10At64
import Derived.Shelf.Strconv.ParseInt10At32
import Derived.Shelf.Strconv.ParseInt10At16
import Derived.Shelf.Strconv.ParseInt10At8
import Derived.Shelf.Strconv.ParseInt10All
import Derived.Shelf.Strings.Search1
import Derived.Shelf.Sort.Plain
import Derived.Shelf.Strings.Prefix
import Derived.Shelf.Unicode.Decode
import Derived.Shelf.Strings.Runes
import Derived.Shelf.Strings.AsciiSet
import Derived.Shelf.Unicode.DecodeSlow
import Derived.Shelf.Unicode.DecodeAny
import Derived.Shelf.Unicode.DecodeLast
import Derived.Shelf.Strings.BuilderCap
import Derived.Shelf.Slices.CompactS
import Derived.Shelf.Slices.Cells
import Derived.Shelf.Slices.In.SortNone
import Derived.Test.YtjongcdlginjlaaGreatDoorProg
import Derived.WalkLawsBesides
import Derived.WalkSpells
import Derived.Handy
import Derived.Deep.LoopGhost
import Derived.Deep.RegionHeld3
import Derived.Deep.DrawnRows
import Derived.Lib.AtoiTie
import Derived.Lib.AppendIntMem
import Derived.Lib.AtoiErrMem
import Derived.Shelf.Strings.SlTrimAscii
import Derived.Shelf.Abstract
import Derived.Deep.RegionLaw
import Derived.Laws.StructEq
import Derived.Lib.SliceRun
import Derived.BigRegion
import Derived.Maps.Own
import Derived.Maps.Views
import Derived.StringKeys
import Derived.Deep.RegionHeldLaw
import Derived.RangeFuncNested
import Derived.RangeFuncBound
import Derived.RangeFuncCalls
import Derived.RangeFuncLeaves
import Derived.RangeFuncBox
import Derived.Shelf.RegionOpen
import Derived.OwnWalkIn
import Derived.TacticsInMore
import Derived.LoopNIn
import Derived.LoopIn
import Derived.Sort.KeysCollected
import Derived.Maps.RangeWalk
import Derived.Sort.OwnSorted
import Derived.StillTailTactics
import Derived.Deep.RegionWith
import Derived.Lib.ItoaLen
import Derived.ArgAppend
import Derived.Deep.DeepCutAuto
import Derived.Deep.RegionHeld
import Derived.Test.YtjongcdlginjlaaGreatDoorRows
import Derived.Deep.Slices
import Derived.Deep.Fields
import Derived.ChangeSame
import Derived.ProofKit
import Derived.OpenShut
import Derived.Test.YtjongcdlginjlaaGreatDoorCards
import Derived.Test.YtjongcdlginjlaaGreatDoorTie
import Derived.Deep.DeepHandedRow
import Derived.Deep.DeepWitnessRowRef
import Derived.Lib.LaidTab
set_option maxRecDepth 100000
set_option maxHeartbeats 8000000
set_option linter.all false
namespace Go.Proofs.YtjongcdlginjlaaGreatDoor
theorem hJ {p : Prop} (h : p) : RowKit.Hid p := h
open Go.Proofs.Tryz
open Go.RowKit
abbrev Blk := Nat → Prop
def All : Blk := fun _ => True
def Fr (T : Blk) (w : World) : Blk := fun k => T k ∨ w.heap.size ≤ k
theorem kCG {w : World} {a : Addr} {v : Value} (h : w.cell? a = some v) : a.block < w.heap.size := by
 rcases Nat.lt_or_ge a.block w.heap.size with g | g
 · exact g
 · simp [World.cell?, Array.getElem?_eq_none g] at h
theorem kG2 (b off j : Nat) : (⟨b, off, none⟩ : Addr).add j = ⟨b, off + j, none⟩ := by
 unfold Addr.add
 split <;> simp_all
theorem kCB {w w' : World} {a : Addr} {v : Value} (h : w.cell? a = some v) (hb : a.block < w.heap.size → w'.heap[a.block]? = w.heap[a.block]?) : w'.cell? a = some v := by
 rw [World.cell?_of_block (w := w) (hb (kCG h))]; exact h
structure Rep (α : Type) where
 size : Nat
 rd : Blk → World → List Value → α → Prop
 pos : 0 < size
 len : ∀ {S w cs x}, rd S w cs x → cs.length = size
 one : ∀ {S w cs x}, rd S w cs x → ∀ u ∈ cs, u.oneCell' = true
 frame : ∀ {S w w' cs x}, rd S w cs x → (∀ k, S k → k < w.heap.size → w'.heap[k]? = w.heap[k]?) → rd S w' cs x
 mono : ∀ {S S' w cs x}, rd S w cs x → (∀ k, S k → k < w.heap.size → S' k) → rd S' w cs x
structure Sl {α : Type} (R : Rep α) (S : Blk) (w : World) (a : Option Addr) (n c : Nat) (l : List α) : Prop where
 len : l.length = n
 cap : n ≤ c
 max : c ≤ maxLen
 nil : a = none → c = 0
 at_ : ∀ (i : Nat) (x : α), l[i]? = some x → ∃ b off cs, a = some ⟨b, off, none⟩ ∧ S b ∧ R.rd S w cs x ∧ ∀ j u, cs[j]? = some u → w.cell? ⟨b, off + (i * R.size + j), none⟩ = some u
theorem Sl.frame {α : Type} {R : Rep α} {S : Blk} {w w' : World} {a : Option Addr} {n c : Nat} {l : List α} (h : Sl R S w a n c l) (hf : ∀ k, S k → k < w.heap.size → w'.heap[k]? = w.heap[k]?) : Sl R S w' a n c l :=
 ⟨h.len, h.cap, h.max, h.nil, fun i x hx => let ⟨b, off, cs, ha, hs, hr, hc⟩ := h.at_ i x hx; ⟨b, off, cs, ha, hs, R.frame hr hf, fun j u hu => kCB (hc j u hu) (hf b hs)⟩⟩
theorem Sl.mono {α : Type} {R : Rep α} {S S' : Blk} {w : World} {a : Option Addr} {n c : Nat} {l : List α} (h : Sl R S w a n c l) (hs : ∀ k, S k → k < w.heap.size → S' k) : Sl R S' w a n c l :=
 ⟨h.len, h.cap, h.max, h.nil, fun i x hx => let ⟨b, off, cs, ha, hS, hr, hc⟩ := h.at_ i x hx
   ⟨b, off, cs, ha, hs b hS (by
     have hl := R.len hr; have hp := R.pos
     have h0 : 0 < cs.length := by omega
     exact kCG (hc 0 cs[0] (by simp [List.getElem?_eq_getElem h0]))), R.mono hr hs, hc⟩⟩
theorem Sl.all {α : Type} {R : Rep α} {S : Blk} {w : World} {a : Option Addr} {n c : Nat} {l : List α} (h : Sl R S w a n c l) : Sl R All w a n c l := h.mono fun _ _ _ => trivial
theorem Sl.below {α : Type} {R : Rep α} {S : Blk} {w w' : World} {a : Option Addr} {n c : Nat} {l : List α} (h : Sl R S w a n c l) (hb : Below w.heap.size w w') : Sl R S w' a n c l :=
 h.frame fun k _ hk => hb.block k hk
theorem Rep.below {α : Type} (R : Rep α) {S : Blk} {w w' : World} {cs : List Value} {x : α} (h : R.rd S w cs x) (hb : Below w.heap.size w w') : R.rd S w' cs x := R.frame h fun k _ hk => hb.block k hk
theorem Sl.empty {α : Type} (R : Rep α) (S : Blk) (w : World) : Sl R S w none 0 0 [] := ⟨rfl, Nat.le_refl _, Nat.zero_le _, fun _ => rfl, fun i x h => by simp at h⟩
theorem Sl.form {α : Type} {R : Rep α} {S : Blk} {w : World} {a : Option Addr} {n c : Nat} {l : List α} (h : Sl R S w a n c l) (k : Nat) (hk : k < n) : ∃ b off, a = some ⟨b, off, none⟩ ∧ b < w.heap.size ∧ S b := by
 have hkl : k < l.length := by rw [h.len]; exact hk
 obtain ⟨b, off, cs, ha, hs, hr, hc⟩ := h.at_ k l[k] (List.getElem?_eq_getElem hkl); have hl := R.len hr; have hp := R.pos
 have h0 : 0 < cs.length := by omega
 exact ⟨b, off, ha, kCG (hc 0 cs[0] (by simp [List.getElem?_eq_getElem h0])), hs⟩
theorem Sl.cells {α : Type} {R : Rep α} {S : Blk} {w : World} {b off n c : Nat} {l : List α} (h : Sl R S w (some ⟨b, off, none⟩) n c l) (k : Nat) (x : α) (hk : l[k]? = some x) : ∃ cs, R.rd S w cs x ∧ ∀ j u, cs[j]? = some u → w.cell? ⟨b, off + (k * R.size + j), none⟩ = some u := by
 obtain ⟨b', off', cs, ha, hs, hr, hc⟩ := h.at_ k x hk
 cases ha
 exact ⟨cs, hr, hc⟩
theorem Sl.take {α : Type} {R : Rep α} {S : Blk} {w : World} {a : Option Addr} {n c : Nat} {l : List α} (h : Sl R S w a n c l) (m : Nat) (hm : m ≤ n) : Sl R S w a m c (l.take m) := by
 refine ⟨by rw [List.length_take, h.len]; omega, Nat.le_trans hm h.cap, h.max, h.nil, fun i x hx => ?_⟩
 rw [List.getElem?_take] at hx
 split at hx
 · exact h.at_ i x hx
 · cases hx
theorem Sl.drop {α : Type} {R : Rep α} {S : Blk} {w : World} {b off n c : Nat} {l : List α} (h : Sl R S w (some ⟨b, off, none⟩) n c l) (m : Nat) (hm : m ≤ n) : Sl R S w (some ⟨b, off + m * R.size, none⟩) (n - m) (c - m) (l.drop m) := by
 refine ⟨by rw [List.length_drop, h.len], by have := h.cap; omega, by have := h.max; omega, (by intro h; cases h), fun i x hx => ?_⟩
 rw [List.getElem?_drop] at hx; obtain ⟨b', off', cs, ha, hs, hr, hc⟩ := h.at_ (m + i) x hx
 cases ha
 refine ⟨b, off + m * R.size, cs, rfl, hs, hr, fun j u hu => ?_⟩
 have := hc j u hu
 rw [Nat.add_mul] at this
 rwa [show off + m * R.size + (i * R.size + j) = off + (m * R.size + i * R.size + j) by omega]
structure Own {α : Type} (R : Rep α) (E : TypeId) (S : Blk) (w : World) (base : Nat) (v : Value) (l : List α) : Prop where
 row : ∃ css : List (List Value), css.length = l.length ∧ w.ownsRow base E R.size v l.length css.flatten ∧ ∀ (i : Nat) (x : α), l[i]? = some x → ∃ cs, css[i]? = some cs ∧ R.rd (fun k => S k ∧ v.ownBlock ≠ some k) w cs x
theorem Own.nil {α : Type} (R : Rep α) (E : TypeId) (S : Blk) (w : World) (base : Nat) : Own R E S w base (.slice none 0 0) [] :=
 ⟨⟨[], rfl, ⟨by simp, .inl ⟨rfl, rfl⟩⟩, fun i x h => by simp at h⟩⟩
theorem kCA {w : World} {base : Nat} {e : TypeId} {size : Nat} {v : Value} {n : Nat} {xs : List Value} (h : w.ownsRow base e size v n xs) : ∃ a c, v = .slice a n c ∧ n ≤ c ∧ c ≤ maxLen ∧ (a = none → c = 0) ∧ (∀ b, a = some b → ∃ g, b = ⟨g, 0, none⟩ ∧ base ≤ g ∧ g < w.heap.size) := by
 obtain ⟨_, ⟨rfl, rfl⟩ | ⟨g, cap, cur, rfl, hg, hh, hn, hm, _⟩⟩ := h
 · exact ⟨none, 0, rfl, Nat.le_refl _, Nat.zero_le _, fun _ => rfl, fun b hb => by cases hb⟩
 · refine ⟨_, _, rfl, hn, hm, by (intro h; cases h), fun b hb => ?_⟩
   cases hb
   refine ⟨g, rfl, hg, ?_⟩
   rcases Nat.lt_or_ge g w.heap.size with q | q
   · exact q
   · rw [Array.getElem?_eq_none q] at hh; cases hh
theorem kEC {css : List (List Value)} {m : Nat} (hm : ∀ cs ∈ css, cs.length = m) : ∀ (i : Nat) (cs : List Value) (j : Nat) (u : Value), css[i]? = some cs → cs[j]? = some u → css.flatten[i * m + j]? = some u := by
 induction css with
 | nil => intro i cs j u h; simp at h
 | cons c css ih =>
   intro i cs j u h hu
   have hc := hm c (List.mem_cons_self ..)
   cases i with
   | zero =>
     simp at h
     subst h
     have hj : j < c.length := by
      rcases Nat.lt_or_ge j c.length with q | q
      · exact q
      · rw [List.getElem?_eq_none q] at hu; cases hu
     rw [List.flatten_cons, Nat.zero_mul, Nat.zero_add, List.getElem?_append_left hj]
     exact hu
   | succ i =>
     rw [List.flatten_cons, List.getElem?_append_right (by rw [hc, Nat.succ_mul]; omega), hc, show (i + 1) * m + j - m = i * m + j by rw [Nat.succ_mul]; omega]
     exact ih (fun cs hcs => hm cs (List.mem_cons_of_mem _ hcs)) i cs j u (by simpa using h) hu
theorem Own.sl {α : Type} {R : Rep α} {E : TypeId} {S : Blk} {w : World} {base : Nat} {v : Value} {l : List α} (h : Own R E S w base v l) : ∃ a c, v = .slice a l.length c ∧ Sl R (fun k => S k ∨ base ≤ k) w a l.length c l := by
 obtain ⟨css, hl, hrow, hel⟩ := h.row; obtain ⟨a, c, rfl, h1, h2, h3, h4⟩ := kCA hrow
 refine ⟨a, c, rfl, ⟨rfl, h1, h2, h3, fun i x hx => ?_⟩⟩
 obtain ⟨cs, hcs, hr⟩ := hel i x hx
 obtain ⟨_, ⟨hv, h0⟩ | ⟨g, cap, cur, hv, hg, hh, hn, hm, hs, ht⟩⟩ := hrow
 · obtain rfl : l = [] := List.eq_nil_of_length_eq_zero h0
   simp at hx
 · rw [Value.slice.injEq] at hv
   obtain ⟨rfl, -, rfl⟩ := hv
   refine ⟨g, 0, cs, rfl, .inr hg, R.mono hr (fun k hk _ => .inl hk.1), fun j u hu => ?_⟩
   have hall : ∀ cs ∈ css, cs.length = R.size := fun cs' hm' => by
    obtain ⟨i', hi', rfl⟩ := List.getElem_of_mem hm'
    obtain ⟨cs2, e2, r2⟩ := hel i' (l[i']'(by omega)) (List.getElem?_eq_getElem (by omega))
    rw [List.getElem?_eq_getElem hi'] at e2
    cases e2
    exact R.len r2
   have hu2 := kEC hall i cs j u hcs hu
   have hlt : i * R.size + j < l.length * R.size := by
    have hfl : css.flatten.length = l.length * R.size := by
     have hcl : cur.toList.length = c * R.size := by rw [← hs]; simp
     have : l.length * R.size ≤ c * R.size := Nat.mul_le_mul_right _ h1
     rw [← ht, List.length_take, hcl]
     omega
    rw [← hfl]
    rcases Nat.lt_or_ge (i * R.size + j) css.flatten.length with q | q
    · exact q
    · rw [List.getElem?_eq_none q] at hu2; cases hu2
   rw [Nat.zero_add]
   have : cur.toList[i * R.size + j]? = some u := by
    rw [← ht, List.getElem?_take, if_pos hlt] at hu2
    exact hu2
   simp [World.cell?, hh]
   rw [← Array.getElem?_toList]
   exact this
structure ElemOf (P : Program) (T E : TypeId) (size bytes : Nat) : Prop where
 slice : P.underlying T = some (.slice E)
 info : (P.info? E).map (fun i => (i.zero.map (fun z => z.cells.size), i.size, i.bytes)) = some (some size, size, bytes)
theorem ElemOf.parts {P : Program} {T E : TypeId} {size bytes : Nat} (h : ElemOf P T E size bytes) : ∃ i z, P.info? E = some i ∧ i.zero = some z ∧ i.size = size ∧ i.bytes = bytes ∧ z.cells.size = size := by
 have h1 := h.info
 cases hi : P.info? E with
 | none => rw [hi] at h1; cases h1
 | some i =>
   rw [hi] at h1
   simp only [Option.map_some, Option.some.injEq, Prod.mk.injEq] at h1
   obtain ⟨h2, h3, h4⟩ := h1
   cases hz : i.zero with
   | none => rw [hz] at h2; cases h2
   | some z =>
     rw [hz] at h2
     simp only [Option.map_some, Option.some.injEq] at h2
     exact ⟨i, z, rfl, hz, h3, h4, h2⟩
theorem kBD {css : List (List Value)} {m : Nat} (hm : ∀ cs ∈ css, cs.length = m) : css.flatten.length = css.length * m := by
 induction css with
 | nil => simp
 | cons c css ih =>
   rw [List.flatten_cons, List.length_append, hm c (List.mem_cons_self ..), ih (fun cs h => hm cs (List.mem_cons_of_mem _ h)), List.length_cons, Nat.succ_mul]
   omega
theorem flatten_get {css : List (List Value)} {m : Nat} (hp : 0 < m) (hm : ∀ cs ∈ css, cs.length = m) (j : Nat) (u : Value) (h : css.flatten[j]? = some u) : ∃ cs, css[j / m]? = some cs ∧ cs[j % m]? = some u := by
 have hj : j < css.length * m := by
  rw [← kBD hm]
  rcases Nat.lt_or_ge j css.flatten.length with q | q
  · exact q
  · rw [List.getElem?_eq_none q] at h; cases h
 have hi : j / m < css.length := (Nat.div_lt_iff_lt_mul hp).2 hj
 have hl := hm css[j / m] (List.getElem_mem hi)
 have hr : j % m < css[j / m].length := by rw [hl]; exact Nat.mod_lt _ hp
 refine ⟨css[j / m], List.getElem?_eq_getElem hi, ?_⟩
 have := kEC hm (j / m) css[j / m] (j % m) (css[j / m][j % m]) (List.getElem?_eq_getElem hi) (List.getElem?_eq_getElem hr)
 rw [Nat.mul_comm, Nat.div_add_mod, h] at this; rw [List.getElem?_eq_getElem hr, this]
structure Kp (v v' : Value) (w w' : World) : Prop where
 block : ∀ k, k < w.heap.size → v.ownBlock ≠ some k → w'.heap[k]? = w.heap[k]?
 own : v'.ownBlock = v.ownBlock ∨ v'.ownBlock = some w.heap.size
theorem Kp.cell {v v' : Value} {w w' : World} (h : Kp v v' w w') {a : Addr} {u : Value} (hc : w.cell? a = some u) (hne : v.ownBlock ≠ some a.block) : w'.cell? a = some u := kCB hc fun hlt => h.block _ hlt hne
theorem Own.run_app {α : Type} {R : Rep α} {P : Program} {T E : TypeId} {bytes : Nat} (he : ElemOf P T E R.size bytes) {S : Blk} {w : World} {base : Nat} {v : Value} {l l' : List α} (h : Own R E S w base v l) (ty : TypeId) (ao : Option Addr) (m c : Nat)
 (hm : l'.length = m) (hn : ao = none → c = 0) (hel : ∀ (i : Nat) (x : α), l'[i]? = some x → ∃ b off cs, ao = some ⟨b, off, none⟩ ∧ R.rd (fun k => S k ∧ v.ownBlock ≠ some k) w cs x ∧ ∀ j u, cs[j]? = some u → w.cell? ⟨b, off + (i * R.size + j), none⟩ = some u)
 (hlen : (l.length + m) * bytes ≤ 140737488355328) (hmax : l.length + m ≤ maxLen) (hbase : base ≤ w.heap.size) :
 ∃ v' w', (Builtin.append_ #[T, T] ty #[v, .slice ao m c]).run P w = .ok v' w' ∧ Own R E S w' base v' (l ++ l') ∧ Below base w w' ∧ Kp v v' w w' := by
 obtain ⟨i0, z0, hi, hz, hs, hb, hzs⟩ := he.parts; obtain ⟨css, hcl, hrow, hrd⟩ := h.row
 cases ao with
 | none =>
   obtain rfl := hn rfl
   have hm0 : l' = [] := by
    cases l' with
    | nil => rfl
    | cons x l' => obtain ⟨b, off, cs, e, _⟩ := hel 0 x rfl; cases e
   subst hm0
   have hm1 : m = 0 := hm.symm
   subst hm1
   refine ⟨v, w, run_append_owned_none (P := P) (w := w) base T ty E i0 R.size he.slice hi v _ _ hrow, ?_, Below.refl _ _, ⟨fun _ _ _ => rfl, .inl rfl⟩⟩
   rw [List.append_nil]
   exact h
 | some ad =>
   -- the cells of what is appended
   have hch : ∀ (n : Nat) (q : List α), (∀ (i : Nat) (x : α), q[i]? = some x → ∃ cs : List Value, R.rd (fun k => S k ∧ v.ownBlock ≠ some k) w cs x ∧ ∀ j u, cs[j]? = some u → w.cell? (ad.add ((n + i) * R.size + j)) = some u) →
    ∃ dss : List (List Value), dss.length = q.length ∧ (∀ (i : Nat) (x : α), q[i]? = some x → ∃ cs, dss[i]? = some cs ∧ R.rd (fun k => S k ∧ v.ownBlock ≠ some k) w cs x ∧ ∀ j u, cs[j]? = some u → w.cell? (ad.add ((n + i) * R.size + j)) = some u) := by
    intro n q
    induction q generalizing n with
    | nil => exact fun _ => ⟨[], rfl, fun i x hx => by simp at hx⟩
    | cons x q ih =>
      intro hq
      obtain ⟨cs, c1, c2⟩ := hq 0 x rfl
      obtain ⟨dss, d1, d2⟩ := ih (n + 1) (fun i y hy => by
       obtain ⟨ds, e1, e2⟩ := hq (i + 1) y (by simpa using hy)
       exact ⟨ds, e1, by rwa [show n + 1 + i = n + (i + 1) by omega]⟩)
      refine ⟨cs :: dss, by simp [d1], fun i y hy => ?_⟩
      cases i with
      | zero => simp at hy; subst hy; exact ⟨cs, rfl, c1, c2⟩
      | succ i =>
        obtain ⟨ds, e1, e2, e3⟩ := d2 i y (by simpa using hy)
        exact ⟨ds, by simpa using e1, e2, by rwa [show n + 1 + i = n + (i + 1) by omega] at e3⟩
   obtain ⟨dss, hdl, hdd⟩ := hch 0 l' (fun i x hx => by
    obtain ⟨b, off, cs, e, r1, r2⟩ := hel i x hx
    cases e
    refine ⟨cs, r1, fun j u hu => ?_⟩
    rw [kG2, Nat.zero_add]
    exact r2 j u hu)
   have hdm : ∀ cs ∈ dss, cs.length = R.size := fun cs hc => by
    obtain ⟨i, hi', rfl⟩ := List.getElem_of_mem hc
    obtain ⟨cs2, e2, r2, _⟩ := hdd i (l'[i]'(by omega)) (List.getElem?_eq_getElem (by omega))
    rw [List.getElem?_eq_getElem hi'] at e2
    cases e2
    exact R.len r2
   have hnews : ∀ j u, dss.flatten[j]? = some u → w.cell? (ad.add j) = some u := fun j u hu => by
    obtain ⟨cs, e1, e2⟩ := flatten_get R.pos hdm j u hu
    have hjl : j / R.size < dss.length := by
     rcases Nat.lt_or_ge (j / R.size) dss.length with q | q
     · exact q
     · rw [List.getElem?_eq_none q] at e1; cases e1
    obtain ⟨cs2, f1, f2, f3⟩ := hdd (j / R.size) (l'[j / R.size]'(by omega)) (List.getElem?_eq_getElem (by omega))
    rw [e1] at f1
    cases f1
    have := f3 _ u e2
    rwa [Nat.zero_add, Nat.mul_comm, Nat.div_add_mod] at this
   have hone : ∀ u ∈ dss.flatten, u.oneCell' = true := fun u hu => by
    obtain ⟨cs, hc, hu'⟩ := List.mem_flatten.1 hu; obtain ⟨i, hi', rfl⟩ := List.getElem_of_mem hc
    obtain ⟨cs2, e2, r2, _⟩ := hdd i (l'[i]'(by omega)) (List.getElem?_eq_getElem (by omega))
    rw [List.getElem?_eq_getElem hi'] at e2
    cases e2
    exact R.one r2 u hu'
   obtain ⟨v', w', h1, h2, h3, _, h5⟩ := run_append_own_at (P := P) w base T ty E i0 z0 R.size bytes he.slice hi hz hs hb hzs R.pos v _ _ hrow ad m c dss.flatten (by rw [kBD hdm, hdl, hm]) hnews hone hmax hlen hbase
   have hown : ∀ k, v.ownBlock = some k → base ≤ k := fun k hk => by
    obtain ⟨a', c', hv, _, _, _, hg⟩ := kCA hrow; subst hv
    cases a' with
    | none => simp [Value.ownBlock] at hk
    | some b =>
      obtain ⟨g, e, hg1, _⟩ := hg b rfl; subst e
      simp [Value.ownBlock] at hk
      omega
   have hB : Below base w w' := (Below.refl _ _).grown h3 hbase hown
   refine ⟨v', w', h1, ⟨⟨css ++ dss, by simp [hcl, hdl], ?_, fun i x hx => ?_⟩⟩, hB, ⟨fun k hlt hne => h3.block k hlt (fun e => hne e.symm), h5⟩⟩
   · rw [List.flatten_append, List.length_append, hm]
     exact h2
   · have keep : ∀ {cs : List Value} {y : α}, R.rd (fun k => S k ∧ v.ownBlock ≠ some k) w cs y → R.rd (fun k => S k ∧ v'.ownBlock ≠ some k) w' cs y := fun {cs y} hr => by
      have hr2 := R.mono (S' := fun k => (S k ∧ v.ownBlock ≠ some k) ∧ k < w.heap.size) hr (fun k h1 h2 => ⟨h1, h2⟩)
      have hr3 := R.frame (w' := w') hr2 (fun k hk hlt => h3.block k hlt (fun e => hk.1.2 e.symm))
      refine R.mono hr3 (fun k hk _ => ⟨hk.1.1, fun e => ?_⟩)
      rcases h5 with q | q
      · exact hk.1.2 (by rw [← q]; exact e)
      · rw [q] at e
        have := hk.2
        simp at e
        omega
     rcases Nat.lt_or_ge i l.length with q | q
     · rw [List.getElem?_append_left q] at hx
       obtain ⟨cs, e1, e2⟩ := hrd i x hx
       exact ⟨cs, by rw [List.getElem?_append_left (by omega)]; exact e1, keep e2⟩
     · rw [List.getElem?_append_right q] at hx
       obtain ⟨cs, e1, e2, _⟩ := hdd (i - l.length) x hx
       exact ⟨cs, by rw [List.getElem?_append_right (by omega), hcl]; exact e1, keep e2⟩
theorem Own.frame {α : Type} {R : Rep α} {E : TypeId} {S : Blk} {w w' : World} {base : Nat} {v : Value} {l : List α} (h : Own R E S w base v l) (hf : ∀ k, k < w.heap.size → (S k ∨ v.ownBlock = some k) → w'.heap[k]? = w.heap[k]?) (hsz : w.heap.size ≤ w'.heap.size) : Own R E S w' base v l := by
 obtain ⟨css, h1, h2, h3⟩ := h.row
 refine ⟨css, h1, ?_, fun i x hx => let ⟨cs, e1, e2⟩ := h3 i x hx; ⟨cs, e1, R.frame e2 fun k hk hlt => hf k hlt (.inl hk.1)⟩⟩
 obtain ⟨q0, q | ⟨g, cap, cur, hv, hg, hh, r⟩⟩ := h2
 · exact ⟨q0, .inl q⟩
 · refine ⟨q0, .inr ⟨g, cap, cur, hv, hg, ?_, r⟩⟩
   rw [hf g (by
    rcases Nat.lt_or_ge g w.heap.size with q | q
    · exact q
    · rw [Array.getElem?_eq_none q] at hh; cases hh) (.inr (by rw [hv]; rfl))]
   exact hh
theorem Own.below {α : Type} {R : Rep α} {E : TypeId} {S : Blk} {w w' : World} {base : Nat} {v : Value} {l : List α} (h : Own R E S w base v l) (hb : Below w.heap.size w w') : Own R E S w' base v l := h.frame (fun k hk _ => hb.block k hk) hb.size
theorem Own.alloc {α : Type} {R : Rep α} {E : TypeId} {S : Blk} {w : World} {base : Nat} {v : Value} {l : List α} (h : Own R E S w base v l) (o : Obj) : Own R E S (w.alloc o) base v l := h.below ((Below.refl _ _).alloc (Nat.le_refl _) o)
theorem Own.drew {α : Type} {R : Rep α} {E : TypeId} {S : Blk} {w : World} {base : Nat} {v : Value} {l : List α} (h : Own R E S w base v l) : Own R E S w.drew base v l := h.below (Below.refl _ _).drew
theorem Own.lower {α : Type} {R : Rep α} {E : TypeId} {S : Blk} {w : World} {base base' : Nat} {v : Value} {l : List α} (h : Own R E S w base v l) (hb : base' ≤ base) : Own R E S w base' v l := by
 obtain ⟨css, h1, h2, h3⟩ := h.row
 refine ⟨css, h1, ?_, h3⟩
 obtain ⟨q0, q | ⟨g, cap, cur, hv, hg, r⟩⟩ := h2
 · exact ⟨q0, .inl q⟩
 · exact ⟨q0, .inr ⟨g, cap, cur, hv, Nat.le_trans hb hg, r⟩⟩
theorem Own.mono {α : Type} {R : Rep α} {E : TypeId} {S S' : Blk} {w : World} {base : Nat} {v : Value} {l : List α} (h : Own R E S w base v l) (hs : ∀ k, S k → k < w.heap.size → S' k) : Own R E S' w base v l := by
 obtain ⟨css, h1, h2, h3⟩ := h.row
 exact ⟨css, h1, h2, fun i x hx => let ⟨cs, e1, e2⟩ := h3 i x hx; ⟨cs, e1, R.mono e2 fun k hk hlt => ⟨hs k hk.1 hlt, hk.2⟩⟩⟩
theorem Own.block {α : Type} {R : Rep α} {E : TypeId} {S : Blk} {w : World} {base : Nat} {v : Value} {l : List α} (h : Own R E S w base v l) {k : Nat} (hk : v.ownBlock = some k) : base ≤ k ∧ k < w.heap.size := by
 obtain ⟨css, _, hrow, _⟩ := h.row; obtain ⟨a', c', hv, _, _, _, hg⟩ := kCA hrow; subst hv
 cases a' with
 | none => simp [Value.ownBlock] at hk
 | some b =>
   obtain ⟨g, e, hg1, hg2⟩ := hg b rfl; subst e
   simp [Value.ownBlock] at hk
   omega
theorem kA8 {α : Type} {R : Rep α} {P : Program} {T E : TypeId} {bytes : Nat} (he : ElemOf P T E R.size bytes) {ops : Array Oper} {rest : List Oper} {o : Oper} {a : Act} {Q : Exit → Act → World → Prop} {w : World} (hgd : o.guard = none) (s x : Operand)
 (ho : o.op = .call { callee := .builtin .append, args := #[s, x], argTypes := #[T, T] }) {S : Blk} (base : Nat) (v : Value) (l : List α) (hs : a.eval s = v) (hown : Own R E S w base v l) (b : Nat) (y : α) (cs : List Value)
 (hx : a.eval x = .slice (some ⟨b, 0, none⟩) 1 1) (hy : R.rd (fun k => S k ∧ v.ownBlock ≠ some k) w cs y) (hc : ∀ j u, cs[j]? = some u → w.cell? ⟨b, j, none⟩ = some u) (hlen : (l.length + 1) * bytes ≤ 140737488355328) (hmax : l.length + 1 ≤ maxLen) (hbase : base ≤ w.heap.size)
 (h : ∀ v' w', Own R E S w' base v' (l ++ [y]) → Below base w w' → Kp v v' w w' → wpList P ops Q rest (a.put o.dst v') w') : wpList P ops Q (o :: rest) a w := by
 obtain ⟨v', w', h1, h2, h3, h4⟩ := hown.run_app he (l' := [y]) o.type (some ⟨b, 0, none⟩) 1 1 rfl (by intro h; cases h) (fun i z hz => by
  cases i with
  | zero => simp at hz; subst hz; exact ⟨b, 0, cs, rfl, hy, fun j u hu => by rw [Nat.zero_add, Nat.zero_mul, Nat.zero_add]; exact hc j u hu⟩
  | succ i => simp at hz) hlen hmax hbase
 refine wpList_plain hgd fun K hK => ?_
 unfold Oper.wp
 simp [execOp, ho, resolve, invoke, builtin, hs, hx, h1, Result.andThen]
 exact hK _ _ (h v' w' h2 h3 h4)
theorem app_sl {α : Type} {R : Rep α} {P : Program} {T E : TypeId} {bytes : Nat} (he : ElemOf P T E R.size bytes) {ops : Array Oper} {rest : List Oper} {o : Oper} {a : Act} {Q : Exit → Act → World → Prop} {w : World} (hgd : o.guard = none) (s x : Operand)
 (ho : o.op = .call { callee := .builtin .append, args := #[s, x], argTypes := #[T, T] }) {S : Blk} (base : Nat) (v : Value) (l l' : List α) (hs : a.eval s = v) (hown : Own R E S w base v l) (ao : Option Addr) (m c : Nat)
 (hx : a.eval x = .slice ao m c) (hy : Sl R (fun k => S k ∧ v.ownBlock ≠ some k) w ao m c l') (hlen : (l.length + m) * bytes ≤ 140737488355328) (hmax : l.length + m ≤ maxLen) (hbase : base ≤ w.heap.size)
 (h : ∀ v' w', Own R E S w' base v' (l ++ l') → Below base w w' → Kp v v' w w' → wpList P ops Q rest (a.put o.dst v') w') : wpList P ops Q (o :: rest) a w := by
 obtain ⟨v', w', h1, h2, h3, h4⟩ := hown.run_app he (l' := l') o.type ao m c hy.len hy.nil (fun i z hz => let ⟨b, off, cs, e, _, r, q⟩ := hy.at_ i z hz; ⟨b, off, cs, e, r, q⟩) hlen hmax hbase
 refine wpList_plain hgd fun K hK => ?_
 unfold Oper.wp
 simp [execOp, ho, resolve, invoke, builtin, hs, hx, h1, Result.andThen]
 exact hK _ _ (h v' w' h2 h3 h4)
abbrev Str := ByteArray
def RStr : Rep Str := ⟨1, fun _ _ cs x => cs = [.string x], by decide, by rintro S w cs x rfl; rfl, by rintro S w cs x rfl u hu; simp at hu; subst hu; rfl, fun h _ => h, fun h _ => h⟩
structure Later (W : World) where
 w : World
 b : Below W.heap.size W w
instance (W : World) : Nonempty (Later W) := ⟨⟨W, Below.refl _ _⟩⟩
theorem Later.cell {W : World} {a : Addr} {v : Value} (h : W.cell? a = some v) (t : Later W) : t.w.cell? a = some v := by rw [t.b.cell (kCG h)]; exact h
theorem Later.call {P : Program} {f : FuncId} {args : Array Value} {W : World} {t : Later W} {v : Value} (h : Calls P f args t.w fun e w' => e = .returned v ∧ Below t.w.heap.size t.w w') : Calls P f args t.w fun e w'' => e = .returned v ∧ ∃ t' : Later W, w'' = t'.w :=
 h.mono fun e w' ⟨he, hb⟩ => ⟨he, ⟨w', t.b.trans (hb.mono t.b.size)⟩, rfl⟩
theorem Later.same {P : Program} {f : FuncId} {args : Array Value} {W : World} {t : Later W} {v : Value} (h : Calls P f args t.w fun e w' => e = .returned v ∧ t.w = w') : Calls P f args t.w fun e w'' => e = .returned v ∧ ∃ t' : Later W, w'' = t'.w :=
 h.mono fun e w' ⟨he, hb⟩ => ⟨he, t, hb.symm⟩
theorem kAB {P : Program} {id : Nat} {Q : Exit → Act → World → Prop} {a : Act} {w : World} {l : List Oper} (hm : P.follows .mixedOrders = true) (hB : Region.lexB .any l.toArray = true)
 (h : wpQuiet P l.toArray (fun w' => ∃ t : Later w, w' = t.w) (fun a' => ∀ w', (∃ t : Later w, w' = t.w) → Q .normal a' w') l a) : (Code.region id l.toArray true).wp P Q a w :=
 wp_region_quiet (C := fun w' => ∃ t : Later w, w' = t.w) hm hB ⟨⟨{ w with drawn := w.drawn + 1 }, ⟨rfl, rfl, rfl, Nat.le_refl _, fun _ _ => rfl⟩⟩, rfl⟩ (by simpa using h)
theorem box0 {w : World} {g : Nat} {E : TypeId} {cs : List Value} (h : w.heap[g]? = some (.cells cs.toArray E (0, 0))) (j : Nat) (u : Value) (hu : cs[j]? = some u) : w.cell? ⟨g, j, none⟩ = some u := by
 simp [World.cell?, h, hu]
theorem box1 (w : World) (E : TypeId) (cs : List Value) : RowKit.Hid (Below w.heap.size w (w.alloc (.cells cs.toArray E))) ∧ (w.alloc (.cells cs.toArray E)).heap[w.heap.size]? = some (.cells cs.toArray E (0, 0)) ∧ (w.alloc (.cells cs.toArray E)).heap.size = w.heap.size + 1 :=
 ⟨hJ ((Below.refl _ _).alloc (Nat.le_refl _) _), by show (w.heap.push _)[w.heap.size]? = _; simp, by simp⟩
theorem box2 (w : World) (E : TypeId) (cs : List Value) (E2 : TypeId) (cs2 : List Value) : RowKit.Hid (Below w.heap.size w ((w.alloc (.cells cs.toArray E)).alloc (.cells cs2.toArray E2))) ∧ ((w.alloc (.cells cs.toArray E)).alloc (.cells cs2.toArray E2)).heap[w.heap.size]? = some (.cells cs.toArray E (0, 0)) ∧ ((w.alloc (.cells cs.toArray E)).alloc (.cells cs2.toArray E2)).heap[w.heap.size + 1]? = some (.cells cs2.toArray E2 (0, 0)) ∧ ((w.alloc (.cells cs.toArray E)).alloc (.cells cs2.toArray E2)).heap.size = w.heap.size + 2 := by
 obtain ⟨b1, h1, s1⟩ := box1 w E cs; obtain ⟨b2, h2, s2⟩ := box1 (w.alloc (.cells cs.toArray E)) E2 cs2; rw [s1] at h2 s2
 exact ⟨hJ (b1.out.trans (b2.out.mono (by omega))), (b2.out.block _ (by omega)).trans h1, h2, s2⟩
theorem box3 (w : World) (E : TypeId) (cs : List Value) (E2 : TypeId) (cs2 : List Value) (E3 : TypeId) (cs3 : List Value) : RowKit.Hid (Below w.heap.size w (((w.alloc (.cells cs.toArray E)).alloc (.cells cs2.toArray E2)).alloc (.cells cs3.toArray E3))) ∧ (((w.alloc (.cells cs.toArray E)).alloc (.cells cs2.toArray E2)).alloc (.cells cs3.toArray E3)).heap[w.heap.size]? = some (.cells cs.toArray E (0, 0)) ∧ (((w.alloc (.cells cs.toArray E)).alloc (.cells cs2.toArray E2)).alloc (.cells cs3.toArray E3)).heap[w.heap.size + 1]? = some (.cells cs2.toArray E2 (0, 0)) ∧ (((w.alloc (.cells cs.toArray E)).alloc (.cells cs2.toArray E2)).alloc (.cells cs3.toArray E3)).heap[w.heap.size + 1 + 1]? = some (.cells cs3.toArray E3 (0, 0)) ∧ (((w.alloc (.cells cs.toArray E)).alloc (.cells cs2.toArray E2)).alloc (.cells cs3.toArray E3)).heap.size = w.heap.size + 3 := by
 obtain ⟨b1, h1, h1', s1⟩ := box2 w E cs E2 cs2; obtain ⟨b2, h2, s2⟩ := box1 ((w.alloc (.cells cs.toArray E)).alloc (.cells cs2.toArray E2)) E3 cs3; rw [s1] at h2 s2
 exact ⟨hJ (b1.out.trans (b2.out.mono (by omega))), (b2.out.block _ (by omega)).trans h1, (b2.out.block _ (by omega)).trans h1', h2, s2⟩
def nb (s : Str) : List Int := s.data.toList.map fun c => (c.toNat : Int)
theorem nb_byte (s : Str) : ∀ x ∈ nb s, 0 ≤ x ∧ x ≤ 255 := by
 intro x hx
 obtain ⟨c, _, rfl⟩ := List.mem_map.1 hx
 have := c.toNat_lt
 omega
def bt (s : Str) (k : Nat) : Int := (nb s).getD k 0
theorem kFD (s : Str) (n : Nat) (h : n < s.size) : ((s[n]'h).toNat : Int) = bt s n := by
 unfold bt nb
 rw [List.getD_eq_getElem?_getD, List.getElem?_map, List.getElem?_eq_getElem (show n < s.data.toList.length from h)]
 rfl
theorem bt_byte (s : Str) (k : Nat) : 0 ≤ bt s k ∧ bt s k ≤ 255 := by
 unfold bt
 rcases Nat.lt_or_ge k (nb s).length with g | g
 · rw [List.getD_eq_getElem?_getD, List.getElem?_eq_getElem g]; exact nb_byte s _ (List.getElem_mem g)
 · rw [List.getD_eq_getElem?_getD, List.getElem?_eq_none g]; exact ⟨by decide, by decide⟩
def seq (a b : Str) : Bool := a.toList == b.toList
def slt (a b : Str) : Bool := Op.bytesLess a.toList b.toList
theorem kA7 (a b : Str) : seq a b = true ↔ a = b := by
 unfold seq
 rw [beq_iff_eq, ByteArray.toList_eq, ByteArray.toList_eq]
 exact ⟨fun h => ByteArray.ext (Array.toList_inj.1 h), fun h => by rw [h]⟩
theorem seq_refl (a : Str) : seq a a = true := (kA7 a a).2 rfl
theorem kGL (a b : Str) : seq a b = seq b a := by
 by_cases h : a = b
 · rw [h]
 · rw [Bool.eq_false_iff.2 (fun g => h ((kA7 a b).1 g)), Bool.eq_false_iff.2 (fun g => h ((kA7 b a).1 g).symm)]
theorem bl_irrefl : ∀ x : List UInt8, Op.bytesLess x x = false
 | [] => rfl
 | a :: x => by simp [Op.bytesLess, bl_irrefl x]
theorem bl_trans : ∀ x y z : List UInt8, Op.bytesLess x y = true → Op.bytesLess y z = true → Op.bytesLess x z = true
 | _, [], _, h, _ => by simp [Op.bytesLess] at h
 | _, _ :: _, [], _, h => by simp [Op.bytesLess] at h
 | [], _ :: _, _ :: _, _, _ => by simp [Op.bytesLess]
 | a :: x, b :: y, c :: z, h1, h2 => by
   simp only [Op.bytesLess, Bool.or_eq_true, decide_eq_true_eq, Bool.and_eq_true, beq_iff_eq] at *
   rcases h1 with h1 | ⟨rfl, h1⟩
   · rcases h2 with h2 | ⟨rfl, h2⟩
     · exact .inl (UInt8.lt_trans h1 h2)
     · exact .inl h1
   · rcases h2 with h2 | ⟨rfl, h2⟩
     · exact .inl h2
     · exact .inr ⟨rfl, bl_trans x y z h1 h2⟩
theorem bl_total : ∀ x y : List UInt8, Op.bytesLess x y = false → Op.bytesLess y x = false → x = y
 | [], [], _, _ => rfl
 | [], _ :: _, h, _ => by simp [Op.bytesLess] at h
 | _ :: _, [], _, h => by simp [Op.bytesLess] at h
 | a :: x, b :: y, h1, h2 => by
   simp only [Op.bytesLess, Bool.or_eq_false_iff, decide_eq_false_iff_not, Bool.and_eq_false_iff, beq_eq_false_iff_ne] at *
   have hab : a = b := by
    have q1 := h1.1; have q2 := h2.1; rw [UInt8.not_lt] at q1 q2
    exact UInt8.le_antisymm q2 q1
   subst hab
   rcases h1.2 with q | q
   · exact absurd rfl q
   · rcases h2.2 with r | r
     · exact absurd rfl r
     · rw [bl_total x y q r]
theorem kBZ (a : Str) : slt a a = false := bl_irrefl _
theorem kBR {a b c : Str} (h1 : slt a b = true) (h2 : slt b c = true) : slt a c = true := bl_trans _ _ _ h1 h2
theorem kCO {a b : Str} (h1 : slt a b = false) (h2 : slt b a = false) : a = b := (kA7 a b).1 (by unfold seq; rw [beq_iff_eq]; exact bl_total _ _ h1 h2)
theorem kE8 {a b : Str} (h1 : slt a b = true) : slt b a = false := by
 rw [Bool.eq_false_iff]
 intro h2
 have := kBR h1 h2
 rw [kBZ] at this
 cases this
structure Coef where
 v : Str
 c : Int
structure Lin where
 const : Int
 terms : List Coef
structure Shp where
 row : Str
 dims : List Lin
structure Typ where
 elem : Str
 shape : Shp
structure Sch where
 params : List Typ
 result : Typ
 wh : List Lin
structure Bnd where
 kind : Int
 v : Str
 dim : Lin
 row : Shp
 elem : Str
structure Ent where
 name : Str
 scheme : Sch
structure Ifc where
 module_ : Str
 entries : List Ent
instance : Inhabited Coef := ⟨⟨default, 0⟩⟩
instance : Inhabited Lin := ⟨⟨0, []⟩⟩
instance : Inhabited Shp := ⟨⟨default, []⟩⟩
instance : Inhabited Typ := ⟨⟨default, default⟩⟩
instance : Inhabited Sch := ⟨⟨[], default, []⟩⟩
instance : Inhabited Bnd := ⟨⟨0, default, default, default, default⟩⟩
instance : Inhabited Ent := ⟨⟨default, default⟩⟩
def kBP : Rep Coef := ⟨2, fun _ _ cs x => cs = [.string x.v, .int .i64 x.c], by decide, by rintro S w cs x rfl; rfl, by rintro S w cs x rfl u hu; simp at hu; rcases hu with rfl | rfl <;> rfl, fun h _ => h, fun h _ => h⟩
def SlV {α : Type} (R : Rep α) (S : Blk) (w : World) (v : Value) (l : List α) : Prop := ∃ a c, v = .slice a l.length c ∧ Sl R S w a l.length c l
theorem SlV.frame {α : Type} {R : Rep α} {S : Blk} {w w' : World} {v : Value} {l : List α} (h : SlV R S w v l) (hf : ∀ k, S k → k < w.heap.size → w'.heap[k]? = w.heap[k]?) : SlV R S w' v l :=
 let ⟨a, c, e, h⟩ := h; ⟨a, c, e, h.frame hf⟩
theorem SlV.mono {α : Type} {R : Rep α} {S S' : Blk} {w : World} {v : Value} {l : List α} (h : SlV R S w v l) (hs : ∀ k, S k → k < w.heap.size → S' k) : SlV R S' w v l :=
 let ⟨a, c, e, h⟩ := h; ⟨a, c, e, h.mono hs⟩
theorem SlV.one {α : Type} {R : Rep α} {S : Blk} {w : World} {v : Value} {l : List α} (h : SlV R S w v l) : v.oneCell' = true := by
 obtain ⟨a, c, rfl, _⟩ := h; rfl
def RLin : Rep Lin := ⟨2, fun S w cs x => ∃ t, cs = [.int .i64 x.const, t] ∧ SlV kBP S w t x.terms, by decide, by rintro S w cs x ⟨t, rfl, _⟩; rfl,
 by rintro S w cs x ⟨t, rfl, ht⟩ u hu; simp at hu; rcases hu with rfl | rfl; rfl; exact ht.one, fun ⟨t, e, h⟩ hf => ⟨t, e, h.frame hf⟩, fun ⟨t, e, h⟩ hs => ⟨t, e, h.mono hs⟩⟩
def RShp : Rep Shp := ⟨2, fun S w cs x => ∃ t, cs = [.string x.row, t] ∧ SlV RLin S w t x.dims, by decide, by rintro S w cs x ⟨t, rfl, _⟩; rfl,
 by rintro S w cs x ⟨t, rfl, ht⟩ u hu; simp at hu; rcases hu with rfl | rfl; rfl; exact ht.one, fun ⟨t, e, h⟩ hf => ⟨t, e, h.frame hf⟩, fun ⟨t, e, h⟩ hs => ⟨t, e, h.mono hs⟩⟩
def RTyp : Rep Typ := ⟨3, fun S w cs x => ∃ t, cs = [.string x.elem, .string x.shape.row, t] ∧ SlV RLin S w t x.shape.dims, by decide, by rintro S w cs x ⟨t, rfl, _⟩; rfl,
 by rintro S w cs x ⟨t, rfl, ht⟩ u hu; simp at hu; rcases hu with rfl | rfl | rfl; rfl; rfl; exact ht.one, fun ⟨t, e, h⟩ hf => ⟨t, e, h.frame hf⟩, fun ⟨t, e, h⟩ hs => ⟨t, e, h.mono hs⟩⟩
def RSch : Rep Sch := ⟨5, fun S w cs x => ∃ p t q, cs = [p, .string x.result.elem, .string x.result.shape.row, t, q] ∧ SlV RTyp S w p x.params ∧ SlV RLin S w t x.result.shape.dims ∧ SlV RLin S w q x.wh, by decide, by rintro S w cs x ⟨p, t, q, rfl, _⟩; rfl,
 by rintro S w cs x ⟨p, t, q, rfl, h1, h2, h3⟩ u hu; simp at hu; rcases hu with rfl | rfl | rfl | rfl | rfl; exact h1.one; rfl; rfl; exact h2.one; exact h3.one, fun ⟨p, t, q, e, h1, h2, h3⟩ hf => ⟨p, t, q, e, h1.frame hf, h2.frame hf, h3.frame hf⟩, fun ⟨p, t, q, e, h1, h2, h3⟩ hs => ⟨p, t, q, e, h1.mono hs, h2.mono hs, h3.mono hs⟩⟩
def RBnd : Rep Bnd := ⟨7, fun S w cs x => ∃ t d, cs = [.int .i64 x.kind, .string x.v, .int .i64 x.dim.const, t, .string x.row.row, d, .string x.elem] ∧ SlV kBP S w t x.dim.terms ∧ SlV RLin S w d x.row.dims, by decide, by rintro S w cs x ⟨t, d, rfl, _⟩; rfl,
 by rintro S w cs x ⟨t, d, rfl, h1, h2⟩ u hu; simp at hu; rcases hu with rfl | rfl | rfl | rfl | rfl | rfl | rfl; rfl; rfl; rfl; exact h1.one; rfl; exact h2.one; rfl, fun ⟨t, d, e, h1, h2⟩ hf => ⟨t, d, e, h1.frame hf, h2.frame hf⟩, fun ⟨t, d, e, h1, h2⟩ hs => ⟨t, d, e, h1.mono hs, h2.mono hs⟩⟩
def REnt : Rep Ent := ⟨6, fun S w cs x => ∃ cs', cs = .string x.name :: cs' ∧ RSch.rd S w cs' x.scheme, by decide, by rintro S w cs x ⟨cs', rfl, h⟩; show cs'.length + 1 = 6; rw [RSch.len h]; rfl,
 by rintro S w cs x ⟨cs', rfl, h⟩ u hu; simp at hu; rcases hu with rfl | hu; rfl; exact RSch.one h u hu, fun ⟨cs', e, h⟩ hf => ⟨cs', e, RSch.frame h hf⟩, fun ⟨cs', e, h⟩ hs => ⟨cs', e, RSch.mono h hs⟩⟩
end Go.Proofs.YtjongcdlginjlaaGreatDoor
namespace Go.Proofs
open Go.Shelf
def Tryz.lays156_ren : Go.Shelf.Ren := ⟨fun | 156 => 135 | 165 => 185 | 166 => 186 | 169 => 187 | 240 => 220 | 241 => 221 | 276 => 241 | 277 => 242 | n => n, fun | 31 => 51 | 9 => 9 | 3 => 3 | 4 => 4 | 0 => 0 | 20 => 20 | 72 => 201 | 76 => 188 | 70 => 199 | 37 => 153 | 75 => 187 | 127 => 228 | 164 => 248 | 5 => 5 | 80 => 203 | n => n, fun | n => n⟩
theorem Tryz.lays156 : Go.Proofs.Lays.n156 Tryz.prog Tryz.lays156_ren := {
 mixed := by kernel_rfl
 f156 := func135.trans (congrArg some (by kernel_rfl))
 f165 := func185.trans (congrArg some (by kernel_rfl))
 f166 := func186.trans (congrArg some (by kernel_rfl))
 f169 := func187.trans (congrArg some (by kernel_rfl))
 f240 := func220.trans (congrArg some (by kernel_rfl))
 f241 := func221.trans (congrArg some (by kernel_rfl))
 f276 := func241.trans (congrArg some (by kernel_rfl))
 f277 := func242.trans (congrArg some (by kernel_rfl))
 t0 := underlying0
 a0 := isAgg0
 z0 := sizeOf0
 v0 := zeroValue0
 t3 := underlying3
 a3 := isAgg3
 z3 := sizeOf3
 v3 := zeroValue3
 t4 := underlying4
 a4 := isAgg4
 z4 := sizeOf4
 v4 := zeroValue4
 t9 := underlying9
 a9 := isAgg9
 z9 := sizeOf9
 v9 := zeroValue9
 t20 := underlying20
 a20 := isAgg20
 z20 := sizeOf20
 v20 := zeroValue20
 t31 := underlying51
 a31 := isAgg51
 z31 := sizeOf51
 v31 := zeroValue51
 t37 := underlying153
 a37 := isAgg153
 z37 := sizeOf153
 v37 := zeroValue153
 t70 := underlying199
 a70 := isAgg199
 z70 := sizeOf199
 v70 := zeroValue199
 t72 := underlying201
 a72 := isAgg201
 z72 := sizeOf201
 v72 := zeroValue201
 t75 := underlying187
 a75 := isAgg187
 z75 := sizeOf187
 v75 := zeroValue187
 t76 := underlying188
 a76 := isAgg188
 z76 := sizeOf188
 v76 := zeroValue188
 t127 := underlying228
 a127 := isAgg228
 z127 := sizeOf228
 v127 := zeroValue228
 t164 := underlying248
 a164 := isAgg248
 z164 := sizeOf248
 v164 := zeroValue248 }
theorem Tryz.Builder_Extra_156 : Builder.Extra Tryz.prog Tryz.lays156_ren := {
 sizeBuilder := by kernel_rfl
 liesBuilder := by kernel_rfl
 t5 := underlying5
 a5 := isAgg5
 z5 := sizeOf5
 v5 := zeroValue5
 infoByte := by kernel_rfl
 cellsByte := by kernel_rfl
 sizeByte := by kernel_rfl
 neB5 := by decide }
open Go.RowKit in
theorem Tryz.strings_Join_none (a : Option Addr) (c : Nat) (sep : ByteArray) (w : World) :
 Calls Tryz.prog 135 #[.slice a 0 c, .string sep] w fun e w' => e = .returned (.string ⟨#[]⟩) ∧ w' = w := Any.strings_Join_none Tryz.lays156 Tryz.Builder_Extra_156 a c sep w
open Go.RowKit in
theorem Tryz.strings_Join (bk o c : Nat) (xs : List ByteArray) (sep : ByteArray) (w : World) (hcells : ∀ (j : Nat) x, xs[j]? = some x → w.cell? ⟨bk, o + j, none⟩ = some (.string x)) (hbk : bk < w.heap.size) (hN : xs.length ≤ 140737488355328) (hcap : xs.length ≤ c) (hlen : (Lib.join (xs.map (·.data.toList)) sep.data.toList).length ≤ 140737488355328) :
 Calls Tryz.prog 135 #[.slice (some ⟨bk, o, none⟩) xs.length c, .string sep] w fun e w' => e = .returned (.string ⟨(Lib.join (xs.map (·.data.toList)) sep.data.toList).toArray⟩) ∧ Below w.heap.size w w' := Any.strings_Join Tryz.lays156 Tryz.Builder_Extra_156 bk o c xs sep w hcells hbk hN hcap hlen
def Tryz.lays160_ren : Go.Shelf.Ren := ⟨fun | 160 => 168 | 232 => 204 | 231 => 203 | 227 => 205 | 234 => 207 | 233 => 206 | 236 => 209 | 235 => 208 | 228 => 229 | 271 => 232 | 151 => 231 | 197 => 230 | 120 => 247 | 152 => 246 | 260 => 245 | 137 => 252 | 119 => 253 | 224 => 254 | 225 => 255 | 217 => 258 | 266 => 259 | n => n, fun | 9 => 9 | 4 => 4 | 3 => 3 | 5 => 5 | 117 => 219 | 116 => 218 | 0 => 0 | 124 => 222 | 21 => 21 | 105 => 237 | 46 => 138 | 119 => 260 | 139 => 263 | 138 => 262 | n => n, fun | 3 => 6 | 4 => 7 | n => n⟩
theorem Tryz.lays160 : Go.Proofs.Lays.n160 Tryz.prog Tryz.lays160_ren := {
 mixed := by kernel_rfl
 f119 := func253.trans (congrArg some (by kernel_rfl))
 f120 := func247.trans (congrArg some (by kernel_rfl))
 f137 := func252.trans (congrArg some (by kernel_rfl))
 f151 := func231.trans (congrArg some (by kernel_rfl))
 f152 := func246.trans (congrArg some (by kernel_rfl))
 f160 := func168.trans (congrArg some (by kernel_rfl))
 f197 := func230.trans (congrArg some (by kernel_rfl))
 f217 := func258.trans (congrArg some (by kernel_rfl))
 f224 := func254.trans (congrArg some (by kernel_rfl))
 f225 := func255.trans (congrArg some (by kernel_rfl))
 f227 := func205.trans (congrArg some (by kernel_rfl))
 f228 := func229.trans (congrArg some (by kernel_rfl))
 f231 := func203.trans (congrArg some (by kernel_rfl))
 f232 := func204.trans (congrArg some (by kernel_rfl))
 f233 := func206.trans (congrArg some (by kernel_rfl))
 f234 := func207.trans (congrArg some (by kernel_rfl))
 f235 := func208.trans (congrArg some (by kernel_rfl))
 f236 := func209.trans (congrArg some (by kernel_rfl))
 f260 := func245.trans (congrArg some (by kernel_rfl))
 f266 := func259.trans (congrArg some (by kernel_rfl))
 f271 := func232.trans (congrArg some (by kernel_rfl))
 t0 := underlying0
 a0 := isAgg0
 z0 := sizeOf0
 v0 := zeroValue0
 t3 := underlying3
 a3 := isAgg3
 z3 := sizeOf3
 v3 := zeroValue3
 t4 := underlying4
 a4 := isAgg4
 z4 := sizeOf4
 v4 := zeroValue4
 t5 := underlying5
 a5 := isAgg5
 z5 := sizeOf5
 v5 := zeroValue5
 t9 := underlying9
 a9 := isAgg9
 z9 := sizeOf9
 v9 := zeroValue9
 t21 := underlying21
 a21 := isAgg21
 z21 := sizeOf21
 v21 := zeroValue21
 t46 := underlying138
 a46 := isAgg138
 z46 := sizeOf138
 v46 := zeroValue138
 t105 := underlying237
 a105 := isAgg237
 z105 := sizeOf237
 v105 := zeroValue237
 t116 := underlying218
 a116 := isAgg218
 z116 := sizeOf218
 t117 := underlying219
 a117 := isAgg219
 z117 := sizeOf219
 v117 := zeroValue219
 t119 := underlying260
 a119 := isAgg260
 z119 := sizeOf260
 t124 := underlying222
 a124 := isAgg222
 z124 := sizeOf222
 v124 := zeroValue222
 t138 := underlying262
 a138 := isAgg262
 z138 := sizeOf262
 v138 := zeroValue262
 t139 := underlying263
 a139 := isAgg263
 z139 := sizeOf263
 v139 := zeroValue263
 g3 := by kernel_rfl
 g4 := by kernel_rfl }
def Tryz.lays125_ren : Go.Shelf.Ren := ⟨fun | 125 => 109 | 128 => 159 | 129 => 160 | n => n, fun | 46 => 138 | 3 => 3 | 51 => 179 | 53 => 181 | 4 => 4 | 5 => 5 | 9 => 9 | n => n, fun | n => n⟩
theorem Tryz.lays125 : Go.Proofs.Lays.n125 Tryz.prog Tryz.lays125_ren := {
 mixed := by kernel_rfl
 f125 := func109.trans (congrArg some (by kernel_rfl))
 f128 := func159.trans (congrArg some (by kernel_rfl))
 f129 := func160.trans (congrArg some (by kernel_rfl))
 t3 := underlying3
 a3 := isAgg3
 z3 := sizeOf3
 v3 := zeroValue3
 t4 := underlying4
 a4 := isAgg4
 z4 := sizeOf4
 v4 := zeroValue4
 t5 := underlying5
 a5 := isAgg5
 z5 := sizeOf5
 v5 := zeroValue5
 t9 := underlying9
 a9 := isAgg9
 z9 := sizeOf9
 v9 := zeroValue9
 t46 := underlying138
 a46 := isAgg138
 z46 := sizeOf138
 v46 := zeroValue138
 t51 := underlying179
 a51 := isAgg179
 z51 := sizeOf179
 v51 := zeroValue179
 t53 := underlying181
 a53 := isAgg181
 z53 := sizeOf181
 v53 := zeroValue181 }
theorem Tryz.bits_Len (x : Int) (w : World) (h0 : 0 ≤ x) (h1 : x ≤ 18446744073709551615) :
 Calls Tryz.prog 109 #[.int .u64 x] w fun e w' => e = .returned (.int .i64 (Lib.bitLen x.toNat)) ∧ w' = w := Any.bits_Len Tryz.lays125 x w h0 h1
def Tryz.lays106_ren : Go.Shelf.Ren := ⟨fun | 106 => 51 | 213 => 97 | 265 => 139 | n => n, fun | 9 => 9 | 3 => 3 | n => n, fun | n => n⟩
theorem Tryz.lays106 : Go.Proofs.Lays.n106 Tryz.prog Tryz.lays106_ren := {
 mixed := by kernel_rfl
 f106 := func51.trans (congrArg some (by kernel_rfl))
 f213 := func97.trans (congrArg some (by kernel_rfl))
 f265 := func139.trans (congrArg some (by kernel_rfl))
 t3 := underlying3
 a3 := isAgg3
 z3 := sizeOf3
 v3 := zeroValue3
 t9 := underlying9
 a9 := isAgg9
 z9 := sizeOf9
 v9 := zeroValue9 }
open Go.RowKit in
theorem Tryz.strings_Compare (a b : ByteArray) (w : World) :
 Calls Tryz.prog 51 #[.string a, .string b] w fun e w' => e = .returned (.int .i64 (Lib.compareBytes a.data.toList b.data.toList)) ∧ w' = w := Any.strings_Compare Tryz.lays106 a b w
def Tryz.laysM171_ren : Go.Shelf.Ren := ⟨fun | 171 => 56 | 243 => 103 | 246 => 143 | 283 => 191 | 284 => 192 | 285 => 193 | 286 => 194 | 129 => 160 | 317 => 223 | 318 => 224 | 319 => 225 | 320 => 226 | 337 => 243 | 338 => 244 | n => n, fun | 3 => 3 | 9 => 9 | 2 => 2 | 4 => 4 | 171 => 204 | 0 => 0 | 53 => 181 | 37 => 153 | 5 => 5 | 173 => 206 | 212 => 231 | 51 => 179 | 20 => 20 | 213 => 232 | 46 => 138 | 232 => 258 | 233 => 259 | n => n, fun | 17 => 1 | 18 => 4 | 19 => 5 | n => n⟩
theorem Tryz.laysM171 : Go.Proofs.LaysM.n171 Tryz.prog Tryz.laysM171_ren := {
 mixed := by kernel_rfl
 f129 := func160.trans (congrArg some (by kernel_rfl))
 f171 := func56.trans (congrArg some (by kernel_rfl))
 f243 := func103.trans (congrArg some (by kernel_rfl))
 f246 := func143.trans (congrArg some (by kernel_rfl))
 f283 := func191.trans (congrArg some (by kernel_rfl))
 f284 := func192.trans (congrArg some (by kernel_rfl))
 f285 := func193.trans (congrArg some (by kernel_rfl))
 f286 := func194.trans (congrArg some (by kernel_rfl))
 f317 := func223.trans (congrArg some (by kernel_rfl))
 f318 := func224.trans (congrArg some (by kernel_rfl))
 f319 := func225.trans (congrArg some (by kernel_rfl))
 f320 := func226.trans (congrArg some (by kernel_rfl))
 f337 := func243.trans (congrArg some (by kernel_rfl))
 f338 := func244.trans (congrArg some (by kernel_rfl))
 t0 := underlying0
 a0 := isAgg0
 z0 := sizeOf0
 v0 := zeroValue0
 t2 := underlying2
 a2 := isAgg2
 z2 := sizeOf2
 v2 := zeroValue2
 t3 := underlying3
 a3 := isAgg3
 z3 := sizeOf3
 v3 := zeroValue3
 t4 := underlying4
 a4 := isAgg4
 z4 := sizeOf4
 v4 := zeroValue4
 t5 := underlying5
 a5 := isAgg5
 z5 := sizeOf5
 v5 := zeroValue5
 t9 := underlying9
 a9 := isAgg9
 z9 := sizeOf9
 v9 := zeroValue9
 t20 := underlying20
 a20 := isAgg20
 z20 := sizeOf20
 v20 := zeroValue20
 t37 := underlying153
 a37 := isAgg153
 z37 := sizeOf153
 v37 := zeroValue153
 t46 := underlying138
 a46 := isAgg138
 z46 := sizeOf138
 v46 := zeroValue138
 t51 := underlying179
 a51 := isAgg179
 z51 := sizeOf179
 v51 := zeroValue179
 t53 := underlying181
 a53 := isAgg181
 z53 := sizeOf181
 v53 := zeroValue181
 t171 := underlying204
 a171 := isAgg204
 z171 := sizeOf204
 v171 := zeroValue204
 t173 := underlying206
 a173 := isAgg206
 z173 := sizeOf206
 v173 := zeroValue206
 t212 := underlying231
 a212 := isAgg231
 z212 := sizeOf231
 v212 := zeroValue231
 t213 := underlying232
 a213 := isAgg232
 z213 := sizeOf232
 t232 := underlying258
 a232 := isAgg258
 z232 := sizeOf258
 v232 := zeroValue258
 t233 := underlying259
 a233 := isAgg259
 z233 := sizeOf259
 v233 := zeroValue259
 g17 := by kernel_rfl
 g18 := by kernel_rfl
 g19 := by kernel_rfl
 i0 := by kernel_rfl
 i2 := by kernel_rfl
 i3 := by kernel_rfl
 i4 := by kernel_rfl
 i5 := by kernel_rfl
 i9 := by kernel_rfl
 i20 := by kernel_rfl
 i37 := by kernel_rfl
 i46 := by kernel_rfl
 i51 := by kernel_rfl
 i53 := by kernel_rfl
 i171 := by kernel_rfl
 i173 := by kernel_rfl
 i212 := by kernel_rfl
 i232 := by kernel_rfl
 i233 := by kernel_rfl
 m17 := by kernel_rfl
 m18 := by kernel_rfl
 m19 := by kernel_rfl }
open Go.RowKit Go.Sort Go.Lib in
theorem Tryz.strconv_Itoa (n : Int) (h0 : -9223372036854775808 ≤ n) (h1 : n ≤ 9223372036854775807) (w : World) (htab : Lib.TabIs Tryz.prog w "internal/strconv.uint64pow10" .u64 Lib.pow10Tab) :
 Calls Tryz.prog 56 #[.int .i64 n] w fun e w' => e = .returned (.string ⟨(Lib.itoa n).toArray⟩) ∧ ∃ k os, w' = grow (w.drewN k) os := Any.strconv_Itoa Tryz.laysM171 n h0 h1 w htab
def Tryz.laysC172_ren : Go.Shelf.Ren := ⟨fun | 172 => 171 | 244 => 211 | 245 => 212 | 247 => 233 | 279 => 234 | 280 => 235 | 281 => 236 | 282 => 237 | 287 => 248 | 316 => 249 | 171 => 56 | 205 => 250 | 321 => 256 | 322 => 257 | 243 => 103 | 246 => 143 | 283 => 191 | 284 => 192 | 285 => 193 | 286 => 194 | 129 => 160 | 317 => 223 | 318 => 224 | 319 => 225 | 320 => 226 | 337 => 243 | 338 => 244 | n => n, fun | 9 => 9 | 3 => 3 | 75 => 187 | 76 => 188 | 4 => 4 | 5 => 5 | 167 => 240 | 37 => 153 | 0 => 0 | 85 => 241 | 2 => 2 | 168 => 243 | 53 => 181 | 175 => 252 | 46 => 138 | 210 => 256 | 127 => 228 | 145 => 269 | 143 => 267 | 21 => 21 | 171 => 204 | 173 => 206 | 212 => 231 | 51 => 179 | 20 => 20 | 213 => 232 | 232 => 258 | 233 => 259 | 80 => 203 | n => n, fun | 15 => 2 | 16 => 3 | 17 => 1 | 18 => 4 | 19 => 5 | n => n⟩
theorem Tryz.laysC172 : Go.Proofs.LaysC.n172 Tryz.prog Tryz.laysC172_ren := {
 mixed := by kernel_rfl
 f129 := func160.trans (congrArg some (by kernel_rfl))
 f171 := func56.trans (congrArg some (by kernel_rfl))
 f172 := func171.trans (congrArg some (by kernel_rfl))
 f205 := func250.trans (congrArg some (by kernel_rfl))
 f243 := func103.trans (congrArg some (by kernel_rfl))
 f244 := func211.trans (congrArg some (by kernel_rfl))
 f245 := func212.trans (congrArg some (by kernel_rfl))
 f246 := func143.trans (congrArg some (by kernel_rfl))
 f247 := func233.trans (congrArg some (by kernel_rfl))
 f279 := func234.trans (congrArg some (by kernel_rfl))
 f280 := func235.trans (congrArg some (by kernel_rfl))
 f281 := func236.trans (congrArg some (by kernel_rfl))
 f282 := func237.trans (congrArg some (by kernel_rfl))
 f283 := func191.trans (congrArg some (by kernel_rfl))
 f284 := func192.trans (congrArg some (by kernel_rfl))
 f285 := func193.trans (congrArg some (by kernel_rfl))
 f286 := func194.trans (congrArg some (by kernel_rfl))
 f287 := func248.trans (congrArg some (by kernel_rfl))
 f316 := func249.trans (congrArg some (by kernel_rfl))
 f317 := func223.trans (congrArg some (by kernel_rfl))
 f318 := func224.trans (congrArg some (by kernel_rfl))
 f319 := func225.trans (congrArg some (by kernel_rfl))
 f320 := func226.trans (congrArg some (by kernel_rfl))
 f321 := func256.trans (congrArg some (by kernel_rfl))
 f322 := func257.trans (congrArg some (by kernel_rfl))
 f337 := func243.trans (congrArg some (by kernel_rfl))
 f338 := func244.trans (congrArg some (by kernel_rfl))
 t0 := underlying0
 a0 := isAgg0
 z0 := sizeOf0
 v0 := zeroValue0
 t2 := underlying2
 a2 := isAgg2
 z2 := sizeOf2
 v2 := zeroValue2
 t3 := underlying3
 a3 := isAgg3
 z3 := sizeOf3
 v3 := zeroValue3
 t4 := underlying4
 a4 := isAgg4
 z4 := sizeOf4
 v4 := zeroValue4
 t5 := underlying5
 a5 := isAgg5
 z5 := sizeOf5
 v5 := zeroValue5
 t9 := underlying9
 a9 := isAgg9
 z9 := sizeOf9
 v9 := zeroValue9
 t20 := underlying20
 a20 := isAgg20
 z20 := sizeOf20
 v20 := zeroValue20
 t21 := underlying21
 a21 := isAgg21
 z21 := sizeOf21
 v21 := zeroValue21
 t37 := underlying153
 a37 := isAgg153
 z37 := sizeOf153
 v37 := zeroValue153
 t46 := underlying138
 a46 := isAgg138
 z46 := sizeOf138
 v46 := zeroValue138
 t51 := underlying179
 a51 := isAgg179
 z51 := sizeOf179
 v51 := zeroValue179
 t53 := underlying181
 a53 := isAgg181
 z53 := sizeOf181
 v53 := zeroValue181
 t75 := underlying187
 a75 := isAgg187
 z75 := sizeOf187
 v75 := zeroValue187
 t76 := underlying188
 a76 := isAgg188
 z76 := sizeOf188
 v76 := zeroValue188
 t85 := underlying241
 a85 := isAgg241
 z85 := sizeOf241
 v85 := zeroValue241
 t127 := underlying228
 a127 := isAgg228
 z127 := sizeOf228
 v127 := zeroValue228
 t143 := underlying267
 a143 := isAgg267
 z143 := sizeOf267
 v143 := zeroValue267
 t145 := underlying269
 a145 := isAgg269
 z145 := sizeOf269
 v145 := zeroValue269
 t167 := underlying240
 a167 := isAgg240
 z167 := sizeOf240
 v167 := zeroValue240
 t168 := underlying243
 a168 := isAgg243
 z168 := sizeOf243
 v168 := zeroValue243
 t171 := underlying204
 a171 := isAgg204
 z171 := sizeOf204
 v171 := zeroValue204
 t173 := underlying206
 a173 := isAgg206
 z173 := sizeOf206
 v173 := zeroValue206
 t175 := underlying252
 a175 := isAgg252
 z175 := sizeOf252
 v175 := zeroValue252
 t210 := underlying256
 a210 := isAgg256
 z210 := sizeOf256
 v210 := zeroValue256
 t212 := underlying231
 a212 := isAgg231
 z212 := sizeOf231
 v212 := zeroValue231
 t213 := underlying232
 a213 := isAgg232
 z213 := sizeOf232
 t232 := underlying258
 a232 := isAgg258
 z232 := sizeOf258
 v232 := zeroValue258
 t233 := underlying259
 a233 := isAgg259
 z233 := sizeOf259
 v233 := zeroValue259
 g15 := by kernel_rfl
 g16 := by kernel_rfl
 g17 := by kernel_rfl
 g18 := by kernel_rfl
 g19 := by kernel_rfl
 t80 := underlying203
 a80 := isAgg203
 z80 := sizeOf203
 v80 := zeroValue203
 i0 := by kernel_rfl
 i2 := by kernel_rfl
 i3 := by kernel_rfl
 i4 := by kernel_rfl
 i5 := by kernel_rfl
 i9 := by kernel_rfl
 i20 := by kernel_rfl
 i21 := by kernel_rfl
 i37 := by kernel_rfl
 i46 := by kernel_rfl
 i51 := by kernel_rfl
 i53 := by kernel_rfl
 i75 := by kernel_rfl
 i76 := by kernel_rfl
 i80 := by kernel_rfl
 i85 := by kernel_rfl
 i127 := by kernel_rfl
 i143 := by kernel_rfl
 i145 := by kernel_rfl
 i167 := by kernel_rfl
 i168 := by kernel_rfl
 i171 := by kernel_rfl
 i173 := by kernel_rfl
 i175 := by kernel_rfl
 i210 := by kernel_rfl
 i212 := by kernel_rfl
 i232 := by kernel_rfl
 i233 := by kernel_rfl
 m15 := by kernel_rfl
 m16 := by kernel_rfl
 m17 := by kernel_rfl
 m18 := by kernel_rfl
 m19 := by kernel_rfl
 c0 := by kernel_rfl
 c2 := by kernel_rfl
 c3 := by kernel_rfl
 c4 := by kernel_rfl
 c5 := by kernel_rfl
 c9 := by kernel_rfl
 c20 := by kernel_rfl
 c21 := by kernel_rfl
 c37 := by kernel_rfl
 c46 := by kernel_rfl
 c51 := by kernel_rfl
 c53 := by kernel_rfl
 c75 := by kernel_rfl
 c76 := by kernel_rfl
 c80 := by kernel_rfl
 c85 := by kernel_rfl
 c127 := by kernel_rfl
 c143 := by kernel_rfl
 c145 := by kernel_rfl
 c167 := by kernel_rfl
 c168 := by kernel_rfl
 c171 := by kernel_rfl
 c173 := by kernel_rfl
 c175 := by kernel_rfl
 c210 := by kernel_rfl
 c212 := by kernel_rfl
 c213 := by kernel_rfl
 c232 := by kernel_rfl
 c233 := by kernel_rfl }
open Go.RowKit in
theorem Tryz.strconv_Atoi_ok (s : ByteArray) (hmax : s.size ≤ 9223372036854775806) (v : Int) (h : Lib.atoiAll s.data.toList = .ok v) (w : World) :
 Calls Tryz.prog 171 #[.string s] w fun e w' => e = .returned (.tuple #[.int .i64 v, .nilIface]) ∧ (w' = w ∨ ∃ t, w' = Lib.bytesWorld w 5 t) := Any.strconv_Atoi_ok Tryz.laysC172 s hmax v h w
open Go.RowKit in
theorem Tryz.strconv_Atoi_range_var (s : ByteArray) (hlim : s.size ≤ 281474976710656) (h : Lib.atoiAll s.data.toList = .range) (tp : TypeId) (p : Value) (w : World) (hvar : w.var? Tryz.prog "strconv.ErrRange" = some #[.iface tp p]) :
 Calls Tryz.prog 171 #[.string s] w fun e w' => ∃ N, e = .returned (.tuple #[.int .i64 (Lib.atoiSat s.data.toList), .iface 243 (.pointer (some ⟨N, 0, none⟩))]) ∧ w.heap.size ≤ N ∧ w'.heap[N]? = some (.cells #[.string ⟨#[65, 116, 111, 105]⟩, .string s, .iface tp p] 256 (0, 0)) ∧ Below w.heap.size w w' := Any.strconv_Atoi_range_var Tryz.laysC172 s hlim h tp p w hvar
def Tryz.lays190_ren : Go.Shelf.Ren := ⟨fun | 190 => 85 | 125 => 109 | 258 => 133 | 128 => 159 | 129 => 160 | 302 => 172 | 303 => 173 | 304 => 174 | 305 => 175 | 306 => 176 | 307 => 177 | 308 => 178 | 309 => 179 | 310 => 180 | 333 => 213 | 329 => 199 | 330 => 200 | 334 => 214 | 335 => 215 | 336 => 216 | 344 => 238 | n => n, fun | 31 => 51 | 9 => 9 | 3 => 3 | 46 => 138 | 0 => 0 | 51 => 179 | 53 => 181 | 4 => 4 | 183 => 173 | 182 => 172 | 131 => 108 | 5 => 5 | 218 => 210 | 222 => 214 | 228 => 234 | 229 => 235 | n => n, fun | n => n⟩
theorem Tryz.lays190 : Go.Proofs.Lays.n190 Tryz.prog Tryz.lays190_ren := {
 mixed := by kernel_rfl
 f125 := func109.trans (congrArg some (by kernel_rfl))
 f128 := func159.trans (congrArg some (by kernel_rfl))
 f129 := func160.trans (congrArg some (by kernel_rfl))
 f190 := func85.trans (congrArg some (by kernel_rfl))
 f258 := func133.trans (congrArg some (by kernel_rfl))
 f302 := func172.trans (congrArg some (by kernel_rfl))
 f303 := func173.trans (congrArg some (by kernel_rfl))
 f304 := func174.trans (congrArg some (by kernel_rfl))
 f305 := func175.trans (congrArg some (by kernel_rfl))
 f306 := func176.trans (congrArg some (by kernel_rfl))
 f307 := func177.trans (congrArg some (by kernel_rfl))
 f308 := func178.trans (congrArg some (by kernel_rfl))
 f309 := func179.trans (congrArg some (by kernel_rfl))
 f310 := func180.trans (congrArg some (by kernel_rfl))
 f329 := func199.trans (congrArg some (by kernel_rfl))
 f330 := func200.trans (congrArg some (by kernel_rfl))
 f333 := func213.trans (congrArg some (by kernel_rfl))
 f334 := func214.trans (congrArg some (by kernel_rfl))
 f335 := func215.trans (congrArg some (by kernel_rfl))
 f336 := func216.trans (congrArg some (by kernel_rfl))
 f344 := func238.trans (congrArg some (by kernel_rfl))
 t0 := underlying0
 a0 := isAgg0
 z0 := sizeOf0
 v0 := zeroValue0
 t3 := underlying3
 a3 := isAgg3
 z3 := sizeOf3
 v3 := zeroValue3
 t4 := underlying4
 a4 := isAgg4
 z4 := sizeOf4
 v4 := zeroValue4
 t5 := underlying5
 a5 := isAgg5
 z5 := sizeOf5
 v5 := zeroValue5
 t9 := underlying9
 a9 := isAgg9
 z9 := sizeOf9
 v9 := zeroValue9
 t31 := underlying51
 a31 := isAgg51
 z31 := sizeOf51
 v31 := zeroValue51
 t46 := underlying138
 a46 := isAgg138
 z46 := sizeOf138
 v46 := zeroValue138
 t51 := underlying179
 a51 := isAgg179
 z51 := sizeOf179
 v51 := zeroValue179
 t53 := underlying181
 a53 := isAgg181
 z53 := sizeOf181
 v53 := zeroValue181
 t131 := underlying108
 a131 := isAgg108
 z131 := sizeOf108
 v131 := zeroValue108
 t182 := underlying172
 a182 := isAgg172
 z182 := sizeOf172
 v182 := zeroValue172
 t183 := underlying173
 a183 := isAgg173
 z183 := sizeOf173
 v183 := zeroValue173
 t218 := underlying210
 a218 := isAgg210
 z218 := sizeOf210
 v218 := zeroValue210
 t222 := underlying214
 a222 := isAgg214
 z222 := sizeOf214
 v222 := zeroValue214
 t228 := underlying234
 a228 := isAgg234
 z228 := sizeOf234
 v228 := zeroValue234
 t229 := underlying235
 a229 := isAgg235
 z229 := sizeOf235
 v229 := zeroValue235 }
open Go.Sort Go.RowKit in
theorem Tryz.slices_Sort_string (blk off cap : Nat) (ss : List (List UInt8)) (w : World) (hH : Holds encStr w blk off ss.toArray) (hblk : blk < w.heap.size) (hsz : ss.length < 4611686018427387904) :
 Calls Tryz.prog 85 #[.slice (some ⟨blk, off, none⟩) ss.length cap] w fun e w' =>
  e = .returned (.tuple #[]) ∧ ∃ n os, w' = grow (putRow encStr (Sort.ahead w n) blk off (ss.mergeSort fun x y => decide (x ≤ y)).toArray) os := Any.slices_Sort_string Tryz.lays190 blk off cap ss w hH hblk hsz
def Tryz.lays99_ren : Go.Shelf.Ren := ⟨fun | 99 => 170 | 206 => 210 | n => n, fun | 9 => 9 | 4 => 4 | 3 => 3 | n => n, fun | n => n⟩
theorem Tryz.lays99 : Go.Proofs.Lays.n99 Tryz.prog Tryz.lays99_ren := {
 mixed := by kernel_rfl
 f99 := func170.trans (congrArg some (by kernel_rfl))
 f206 := func210.trans (congrArg some (by kernel_rfl))
 t3 := underlying3
 a3 := isAgg3
 z3 := sizeOf3
 v3 := zeroValue3
 t4 := underlying4
 a4 := isAgg4
 z4 := sizeOf4
 v4 := zeroValue4
 t9 := underlying9
 a9 := isAgg9
 z9 := sizeOf9
 v9 := zeroValue9 }
open Go.RowKit Go.Lib in
theorem Tryz.strings_HasPrefix (s p : ByteArray) (w : World) :
 Calls Tryz.prog 170 #[.string s, .string p] w fun e w' => e = .returned (.bool (Lib.hasPrefix s.data.toList p.data.toList)) ∧ w' = w := Any.strings_HasPrefix Tryz.lays99 s p w
def Tryz.lays102_ren : Go.Shelf.Ren := ⟨fun | 102 => 219 | 209 => 240 | 207 => 251 | n => n, fun | 9 => 9 | 4 => 4 | 3 => 3 | n => n, fun | n => n⟩
theorem Tryz.lays102 : Go.Proofs.Lays.n102 Tryz.prog Tryz.lays102_ren := {
 mixed := by kernel_rfl
 f102 := func219.trans (congrArg some (by kernel_rfl))
 f207 := func251.trans (congrArg some (by kernel_rfl))
 f209 := func240.trans (congrArg some (by kernel_rfl))
 t3 := underlying3
 a3 := isAgg3
 z3 := sizeOf3
 v3 := zeroValue3
 t4 := underlying4
 a4 := isAgg4
 z4 := sizeOf4
 v4 := zeroValue4
 t9 := underlying9
 a9 := isAgg9
 z9 := sizeOf9
 v9 := zeroValue9 }
open Go.RowKit Go.Lib in
theorem Tryz.strings_TrimSuffix (s p : ByteArray) (w : World) (hs : s.size ≤ 9223372036854775807) :
 Calls Tryz.prog 219 #[.string s, .string p] w fun e w' => e = .returned (.string ⟨(Lib.trimSuffix s.data.toList p.data.toList).toArray⟩) ∧ w' = w := Any.strings_TrimSuffix Tryz.lays102 s p w hs
def Tryz.lays194_ren : Go.Shelf.Ren := ⟨fun | 194 => 38 | n => n, fun | 31 => 51 | 9 => 9 | 3 => 3 | 4 => 4 | 0 => 0 | n => n, fun | n => n⟩
theorem Tryz.lays194 : Go.Proofs.Lays.n194 Tryz.prog Tryz.lays194_ren := {
 mixed := by kernel_rfl
 f194 := func38.trans (congrArg some (by kernel_rfl))
 t0 := underlying0
 a0 := isAgg0
 z0 := sizeOf0
 v0 := zeroValue0
 t3 := underlying3
 a3 := isAgg3
 z3 := sizeOf3
 v3 := zeroValue3
 t4 := underlying4
 a4 := isAgg4
 z4 := sizeOf4
 v4 := zeroValue4
 t9 := underlying9
 a9 := isAgg9
 z9 := sizeOf9
 v9 := zeroValue9
 t31 := underlying51
 a31 := isAgg51
 z31 := sizeOf51
 v31 := zeroValue51 }
open Go.RowKit Go.Lib Go.Sort in
theorem Tryz.slices_Compact_string (blk off cap : Nat) (zs : List (List UInt8)) (w : World) (hH : Holds encStr w blk off zs.toArray) (hsz : zs.length ≤ 9223372036854775807) (hcap : zs.length ≤ cap) :
 Calls Tryz.prog 38 #[.slice (some ⟨blk, off, none⟩) zs.length cap] w fun e w' => e = .returned (.slice (some ⟨blk, off, none⟩) (Lib.compact zs).length cap) ∧ ∃ q, w' = putRow encStr (Sort.ahead w q) blk off (Lib.compact zs ++ List.replicate (zs.length - (Lib.compact zs).length) []).toArray := Any.slices_Compact_string Tryz.lays194 blk off cap zs w hH hsz hcap
open Go.RowKit Go.Lib Go.Sort in
theorem Tryz.slices_Compact_string_empty (a : Option Addr) (cap : Nat) (w : World) :
 Calls Tryz.prog 38 #[.slice a 0 cap] w fun e w' => e = .returned (.slice a 0 cap) ∧ w' = w := Any.slices_Compact_string_empty Tryz.lays194 a cap w
def Tryz.growT_ren : Go.Shelf.Ren := ⟨fun | 4 => 140 | n => n, fun | 22 => 34 | 25 => 39 | 3 => 3 | 4 => 4 | 9 => 9 | 20 => 20 | 0 => 0 | n => n, fun | n => n⟩
theorem Tryz.growT : Go.Proofs.Lays8.n4 Tryz.prog Tryz.growT_ren := {
 mixed := by kernel_rfl
 f4 := ⟨Tryz.f140.name, by decide, func140.trans (congrArg some (by kernel_rfl))⟩
 t0 := underlying0
 a0 := isAgg0
 z0 := sizeOf0
 v0 := zeroValue0
 t3 := underlying3
 a3 := isAgg3
 z3 := sizeOf3
 v3 := zeroValue3
 t4 := underlying4
 a4 := isAgg4
 z4 := sizeOf4
 v4 := zeroValue4
 t9 := underlying9
 a9 := isAgg9
 z9 := sizeOf9
 v9 := zeroValue9
 t20 := underlying20
 a20 := isAgg20
 z20 := sizeOf20
 v20 := zeroValue20
 t22 := underlying34
 a22 := isAgg34
 z22 := sizeOf34
 v22 := zeroValue34 }
end Go.Proofs
namespace Go.Proofs.YtjongcdlginjlaaGreatDoor
open Go.Proofs.Tryz
open Go.RowKit
structure Env (w : World) : Prop where
 sx : ∃ tp p, World.var? Tryz.prog w "strconv.ErrSyntax" = some #[.iface tp p]
 rg : ∃ tp p, World.var? Tryz.prog w "strconv.ErrRange" = some #[.iface tp p]
 ten : Lib.TabIs Tryz.prog w "internal/strconv.uint64pow10" .u64 Lib.pow10Tab
 big : 8 ≤ w.heap.size
theorem Env.below {w w' : World} (h : Env w) (hb : Below w.heap.size w w') : Env w' :=
 have hg := h.big
 ⟨h.sx.imp fun _ ⟨p, e⟩ => ⟨p, var?_below hb (g := 2) (by kernel_rfl) (by omega) e⟩, h.rg.imp fun _ ⟨p, e⟩ => ⟨p, var?_below hb (g := 3) (by kernel_rfl) (by omega) e⟩,
   var?_below hb (g := 1) (by kernel_rfl) (by omega) h.ten, Nat.le_trans hg hb.size⟩
theorem Env.at_ {W : World} (h : Env W) (t : Later W) : Env t.w := h.below t.b
theorem atoi_any (s : Str) (hs : s.size ≤ 281474976710656) (w : World) (E : Env w) : Calls Tryz.prog 171 #[.string s] w fun e w' =>
 ((∃ v, Lib.atoiAll s.data.toList = .ok v ∧ e = .returned (.tuple #[.int .i64 v, .nilIface])) ∨ ((∀ v, Lib.atoiAll s.data.toList ≠ .ok v) ∧ ∃ v t p, e = .returned (.tuple #[.int .i64 v, .iface t p]))) ∧ Below w.heap.size w w' := by
 cases h : Lib.atoiAll s.data.toList
 case ok v =>
  refine (Tryz.strconv_Atoi_ok s (by omega) v h w).mono ?_
  rintro e w' ⟨rfl, rfl | ⟨t, rfl⟩⟩
  · exact ⟨.inl ⟨v, rfl, rfl⟩, Below.refl _ _⟩
  · exact ⟨.inl ⟨v, rfl, rfl⟩, Lib.bytesWorld_below _ _ _⟩
 case range =>
  obtain ⟨tp, p, hv⟩ := E.rg
  refine (Tryz.strconv_Atoi_range_var s hs h tp p w hv).mono ?_
  rintro e w' ⟨N, rfl, _, _, hb⟩
  exact ⟨.inr ⟨fun v => by simp, _, _, _, rfl⟩, hb⟩
 obtain ⟨tp, p, hv⟩ := E.sx
 refine (Go.Proofs.Any.strconv_Atoi_syntax_var Tryz.laysC172 s hs h tp p w hv).mono ?_
 rintro e w' ⟨N, rfl, _, _, hb⟩
 exact ⟨.inr ⟨fun v => by simp, _, _, _, rfl⟩, hb⟩
theorem kFQ (n : Int) (h0 : -9223372036854775808 ≤ n) (h1 : n ≤ 9223372036854775807) (w : World) (E : Env w) : Calls Tryz.prog 56 #[.int .i64 n] w fun e w' =>
 e = .returned (.string ⟨(Lib.itoa n).toArray⟩) ∧ Below w.heap.size w w' := by
 refine (Tryz.strconv_Itoa n h0 h1 w E.ten).mono ?_
 rintro e w' ⟨rfl, k, os, rfl⟩
 exact ⟨rfl, Lib.below_grow _ _ (Nat.le_refl _) _ _⟩
def kA3 (c : Int) : Bool := decide (48 ≤ c ∧ c ≤ 57)
def kA6 (c : Int) : Bool := decide (97 ≤ c ∧ c ≤ 122)
def kBB (s : Str) : Bool :=
 if bt s 0 = 95 then decide (2 ≤ s.size ∧ s.size ≤ 10 ∧ bt s 1 ≠ 48) && (List.range s.size).all (fun i => i == 0 || kA3 (bt s i))
 else decide (1 ≤ s.size ∧ s.size ≤ 30) && (List.range s.size).all (fun i => kA6 (bt s i) || (i != 0 && kA3 (bt s i)))
theorem digits_back : ∀ (t : List UInt8), t ≠ [] → (∀ c ∈ t, 48 ≤ c.toNat ∧ c.toNat ≤ 57) → (∀ c, t[0]? = some c → c.toNat ≠ 48) → ∃ n : Nat, 0 < n ∧ Lib.decFrom 0 t = some n ∧ Lib.decDigits n = t := by
 have app : ∀ (t : List UInt8) (a m : Nat) (c : UInt8), Lib.decFrom a t = some m → 48 ≤ c.toNat ∧ c.toNat ≤ 57 → Lib.decFrom a (t ++ [c]) = some (m * 10 + (c.toNat - 48)) := by
  intro t
  induction t with
  | nil => intro a m c h hc; simp [Lib.decFrom] at h; subst h; simp [Lib.decFrom, Lib.digitVal, hc]
  | cons x t ih =>
    intro a m c h hc
    rw [List.cons_append]
    simp only [Lib.decFrom] at h ⊢
    cases hx : Lib.digitVal x with
    | none => rw [hx] at h; cases h
    | some d => rw [hx] at h; exact ih _ _ _ h hc
 have key : ∀ (r : List UInt8), r ≠ [] → (∀ c ∈ r, 48 ≤ c.toNat ∧ c.toNat ≤ 57) → (∀ c, r.reverse[0]? = some c → c.toNat ≠ 48) → ∃ n : Nat, 0 < n ∧ Lib.decFrom 0 r.reverse = some n ∧ Lib.decDigits n = r.reverse := by
  intro r
  induction r with
  | nil => intro h; exact absurd rfl h
  | cons c r ih =>
    intro _ hd h0
    have hc := hd c (List.mem_cons_self ..)
    by_cases hr : r = []
    · subst hr
      have h9 := h0 c rfl
      refine ⟨c.toNat - 48, by omega, ?_, ?_⟩
      · show Lib.decFrom 0 [c] = _
        simp [Lib.decFrom, Lib.digitVal, hc]
      · rw [Lib.decDigits_one (by omega), show 48 + (c.toNat - 48) = c.toNat by omega]
        simp
    · obtain ⟨n, h1, h2, h3⟩ := ih hr (fun x hx => hd x (List.mem_cons_of_mem _ hx)) (fun x hx => h0 x (by
       rw [List.reverse_cons, List.getElem?_append_left]
       · exact hx
       · rw [List.length_reverse]; exact List.length_pos_iff.2 hr))
      refine ⟨n * 10 + (c.toNat - 48), by omega, ?_, ?_⟩
      · rw [List.reverse_cons]; exact app _ _ _ _ h2 hc
      · rw [Lib.decDigits, dif_neg (by omega), show (n * 10 + (c.toNat - 48)) / 10 = n by omega, h3, show 48 + (n * 10 + (c.toNat - 48)) % 10 = c.toNat by omega, List.reverse_cons]
        simp
 intro t h1 h2 h3
 have := key t.reverse (by simpa using h1) (fun c hc => h2 c (List.mem_reverse.1 hc)) (by rw [List.reverse_reverse]; exact h3)
 rwa [List.reverse_reverse] at this
theorem dec_digit (u : Nat) : ∀ c ∈ Lib.decDigits u, 48 ≤ c.toNat ∧ c.toNat ≤ 57 := by
 induction u using Nat.strongRecOn with
 | _ u ih =>
   intro c hc
   rw [Lib.decDigits] at hc
   split at hc
   · obtain rfl := List.mem_singleton.1 hc; rw [UInt8.toNat_ofNat']; omega
   · rcases List.mem_append.1 hc with g | g
     · exact ih _ (by omega) c g
     · obtain rfl := List.mem_singleton.1 g; rw [UInt8.toNat_ofNat']; omega
theorem dec_head (u : Nat) (h : 0 < u) : ∃ c r, Lib.decDigits u = c :: r ∧ c.toNat ≠ 48 := by
 induction u using Nat.strongRecOn with
 | _ u ih =>
   rw [Lib.decDigits]
   split
   · exact ⟨_, [], rfl, by rw [UInt8.toNat_ofNat']; omega⟩
   · obtain ⟨c, r, e, hc⟩ := ih (u / 10) (by omega) (by omega)
     exact ⟨c, _, by rw [e]; rfl, hc⟩
theorem under (t : List UInt8) : (t.length ≤ 9 ∧ ∃ v, Lib.atoiAll t = .ok v ∧ 0 < v ∧ Lib.itoa v = t) ↔ (1 ≤ t.length ∧ t.length ≤ 9 ∧ (∀ c ∈ t, 48 ≤ c.toNat ∧ c.toNat ≤ 57) ∧ (∀ c, t[0]? = some c → c.toNat ≠ 48)) := by
 constructor
 · rintro ⟨h9, v, _, hv, hi⟩
   unfold Lib.itoa at hi
   rw [if_neg (by omega)] at hi
   obtain ⟨c, r, e, hc⟩ := dec_head v.toNat (by omega)
   refine ⟨by rw [← hi, e]; simp, h9, by rw [← hi]; exact dec_digit _, fun x hx => ?_⟩
   rw [← hi, e] at hx
   simp at hx
   subst hx
   exact hc
 · rintro ⟨h1, h9, hd, h0⟩
   obtain ⟨n, hn, h2, h3⟩ := digits_back t (by intro e; rw [e] at h1; simp at h1) hd h0
   refine ⟨h9, n, ?_, by omega, by unfold Lib.itoa; rw [if_neg (by omega)]; simpa using h3⟩
   rw [Lib.atoiAll_short t (by omega)]
   cases t with
   | nil => simp at h1
   | cons c r =>
     have hc := hd c (List.mem_cons_self ..)
     have q1 : ¬ c = 45 := by rintro rfl; simp at hc
     have q2 : ¬ c = 43 := by rintro rfl; simp at hc
     simp [Lib.atoi, q1, q2, Lib.decNat, h2, Lib.NumEnd.ofOption]
theorem bt_at (s : Str) (k : Nat) (c : UInt8) (h : s.data.toList[k]? = some c) : bt s k = (c.toNat : Int) := by
 unfold bt nb
 rw [List.getD_eq_getElem?_getD, List.getElem?_map, h]
 rfl
theorem at_bt (s : Str) (k : Nat) (h : k < s.size) : ∃ c, s.data.toList[k]? = some c ∧ bt s k = (c.toNat : Int) := by
 have hl : k < s.data.toList.length := h
 exact ⟨s.data.toList[k], List.getElem?_eq_getElem hl, bt_at s k _ (List.getElem?_eq_getElem hl)⟩
theorem pre_under (s : Str) : Lib.hasPrefix s.data.toList [95] = decide (bt s 0 = 95) := by
 unfold Lib.hasPrefix bt nb
 cases s.data.toList with
 | nil => simp
 | cons c r => 
   simp only [List.isPrefixOf, List.map_cons, List.getD_cons_zero, Bool.and_true]
   by_cases h : c = 95
   · subst h; rfl
   · rw [beq_eq_false_iff_ne.2 (Ne.symm h), Eq.comm, decide_eq_false_iff_not]
     intro q
     exact h (UInt8.toNat_inj.1 (by have : (95 : UInt8).toNat = 95 := rfl; omega))
def tail1 (s : Str) : Str := s.extract 1 s.size
theorem tail1_list (s : Str) : (tail1 s).data.toList = s.data.toList.drop 1 := by
 unfold tail1
 rw [ByteArray.data_extract, Array.toList_extract]
 show (s.data.toList.drop 1).take (s.size - 1) = _
 rw [List.take_of_length_le (by rw [List.length_drop]; exact Nat.le_refl _)]
theorem name_under (s : Str) (h : bt s 0 = 95) : kBB s = true ↔ s.size ≤ 10 ∧ ∃ v, Lib.atoiAll (tail1 s).data.toList = .ok v ∧ 0 < v ∧ Lib.itoa v = (tail1 s).data.toList := by
 have hpos : 0 < s.size := by
  rcases Nat.eq_zero_or_pos s.size with g | g
  · unfold bt nb at h
    rw [show s.data.toList = [] from List.eq_nil_of_length_eq_zero g] at h
    simp at h
  · exact g
 rw [tail1_list]
 have hlen : (s.data.toList.drop 1).length = s.size - 1 := by rw [List.length_drop]; rfl
 have hu := under (s.data.toList.drop 1); rw [hlen] at hu
 have e1 : (s.size ≤ 10 ∧ ∃ v, Lib.atoiAll (s.data.toList.drop 1) = .ok v ∧ 0 < v ∧ Lib.itoa v = s.data.toList.drop 1) ↔ (s.size - 1 ≤ 9 ∧ ∃ v, Lib.atoiAll (s.data.toList.drop 1) = .ok v ∧ 0 < v ∧ Lib.itoa v = s.data.toList.drop 1) := and_congr_left fun _ => by omega
 rw [e1, hu]; clear e1 hu hlen
 unfold kBB
 rw [if_pos h, Bool.and_eq_true, decide_eq_true_eq, List.all_eq_true]
 constructor
 · rintro ⟨⟨h2, h10, h1⟩, ha⟩
   refine ⟨by omega, by omega, fun c hc => ?_, fun c hc => ?_⟩
   · obtain ⟨i, hi⟩ := List.mem_iff_getElem?.1 hc
     rw [List.getElem?_drop] at hi
     have hlt : 1 + i < s.size := by
      rcases Nat.lt_or_ge (1 + i) s.data.toList.length with q | q
      · exact q
      · rw [List.getElem?_eq_none q] at hi; cases hi
     have := ha (1 + i) (List.mem_range.2 hlt)
     simp only [Bool.or_eq_true, beq_iff_eq, kA3, decide_eq_true_eq] at this
     rw [bt_at s _ c hi] at this
     omega
   · rw [List.getElem?_drop] at hc
     rw [bt_at s 1 c hc] at h1
     omega
 · rintro ⟨h2, h9, ha, h0⟩
   refine ⟨⟨by omega, by omega, ?_⟩, fun i hi => ?_⟩
   · obtain ⟨c, hc, e⟩ := at_bt s 1 (by omega)
     rw [e]
     have := h0 c (by rw [List.getElem?_drop]; exact hc)
     omega
   · have hi := List.mem_range.1 hi
     rcases Nat.eq_zero_or_pos i with q | q
     · subst q; rfl
     · obtain ⟨c, hc, e⟩ := at_bt s i hi
       have := ha c (List.mem_iff_getElem?.2 ⟨i - 1, by rw [List.getElem?_drop, show 1 + (i - 1) = i by omega]; exact hc⟩)
       simp only [Bool.or_eq_true, kA3, decide_eq_true_eq]
       exact .inr (by rw [e]; omega)
theorem tail1_size (s : Str) : (tail1 s).size = s.size - 1 := by
 show (tail1 s).data.toList.length = _
 rw [tail1_list, List.length_drop]; rfl
theorem kFO (s : Str) (h : bt s 0 ≠ 95) : kBB s = (decide (1 ≤ s.size ∧ s.size ≤ 30) && (List.range s.size).all (fun i => kA6 (bt s i) || (i != 0 && kA3 (bt s i)))) := by
 unfold kBB; rw [if_neg h]
theorem pre_yes (s : Str) (h : bt s 0 = 95) (w : World) : Calls Tryz.prog 170 #[.string s, .string ⟨#[95]⟩] w fun e w' => e = .returned (.bool true) ∧ w = w' := by
 have := Tryz.strings_HasPrefix s ⟨#[95]⟩ w
 rw [show Lib.hasPrefix s.data.toList (ByteArray.mk #[95]).data.toList = true from (pre_under s).trans (decide_eq_true h)] at this
 exact this.mono fun _ _ h => ⟨h.1, h.2.symm⟩
theorem pre_no (s : Str) (h : bt s 0 ≠ 95) (w : World) : Calls Tryz.prog 170 #[.string s, .string ⟨#[95]⟩] w fun e w' => e = .returned (.bool false) ∧ w = w' := by
 have := Tryz.strings_HasPrefix s ⟨#[95]⟩ w
 rw [show Lib.hasPrefix s.data.toList (ByteArray.mk #[95]).data.toList = false from (pre_under s).trans (decide_eq_false h)] at this
 exact this.mono fun _ _ h => ⟨h.1, h.2.symm⟩
theorem kD1 {n k : Nat} {p : Nat → Bool} (hk : k < n) (h : p k = false) : (List.range n).all p = false := by
 rw [List.all_eq_false]
 exact ⟨k, List.mem_range.2 hk, by rw [h]; decide⟩
theorem kCH {n : Nat} {p : Nat → Bool} (h : ∀ i, i < n → p i = true) : (List.range n).all p = true := by
 rw [List.all_eq_true]
 exact fun i hi => h i (List.mem_range.1 hi)
theorem linear_Name_under (s : Str) (h95 : bt s 0 = 95) (hs : s.size ≤ 281474976710656) (w : World) (E : Env w) : Calls Tryz.prog 130 #[.string s] w fun e w' => e = .returned (.bool (kBB s)) ∧ Below w.heap.size w w' := by
 have HU := hJ (name_under s h95)
 have hpos : 1 ≤ s.size := by
  rcases Nat.eq_zero_or_pos s.size with g | g
  · unfold bt nb at h95
    rw [show s.data.toList = [] from List.eq_nil_of_length_eq_zero g] at h95
    simp at h95
  · exact g
 have EE := hJ E; have HS := hJ hs; have H95 := hJ h95; clear E h95
 go_enter func130, ntmps130
 go_wp2_with fail
 refine (pre_yes s H95.out w).mono ?_
 rintro e _ ⟨rfl, rfl⟩
 go_wp2_with fail
 refine (atoi_any (tail1 s) (by rw [tail1_size]; omega) _ EE.out).mono ?_
 rintro e w1 ⟨⟨v, hv, rfl⟩ | ⟨hv, v, t, p, rfl⟩, hb⟩
 · have E1 := hJ (EE.out.below hb)
   have HV := hJ hv; have hbd := hJ (Lib.atoiAll_bounds hv); clear hv
   by_cases hv0 : 0 < v
   · have g0 : decide (0 < v) = true := decide_eq_true hv0
     by_cases h10 : s.size ≤ 10
     · have g1 : decide ((s.size : Int) ≤ 10) = true := decide_eq_true (by omega)
       have HN : Hid (kBB s = (Lib.itoa v == (ByteArray.extract s 1 s.size).toList)) := hJ (by
        rw [Bool.eq_iff_iff, HU.out, beq_iff_eq, ByteArray.toList_eq]
        exact ⟨fun ⟨_, v', q1, q2, q3⟩ => by rw [HV.out] at q1; cases q1; exact q3, fun q => ⟨h10, v, HV.out, hv0, q⟩⟩)
       go_wp2_with fail
       refine kAB (by kernel_rfl) (by kernel_rfl) ?_
       repeat (go_big_quiet_step (first | fail | exact Later.call (kFQ _ hbd.out.1 hbd.out.2 _ (E1.out.at_ _))))
       refine wpQuiet_nil ?_
       rintro _ ⟨t9, rfl⟩
       go_wp2_with fail
       go_ret
       exact ⟨by rw [HN.out]; rfl, hb.trans (t9.b.mono hb.size)⟩
     · have g1 : decide ((s.size : Int) ≤ 10) = false := decide_eq_false (by omega)
       have HN : Hid (kBB s = false) := hJ (by rw [Bool.eq_false_iff]; exact fun q => h10 (HU.out.1 q).1)
       go_wp2_with fail
       refine kAB (by kernel_rfl) (by kernel_rfl) ?_
       repeat (go_big_quiet_step (first | fail | exact Later.call (kFQ _ hbd.out.1 hbd.out.2 _ (E1.out.at_ _))))
       refine wpQuiet_nil ?_
       rintro _ ⟨t9, rfl⟩
       go_wp2_with fail
       go_ret
       exact ⟨by rw [HN.out]; rfl, hb.trans (t9.b.mono hb.size)⟩
   · have g0 : decide (0 < v) = false := decide_eq_false hv0
     have HN : Hid (kBB s = false) := hJ (by
      rw [Bool.eq_false_iff]
      rintro q
      obtain ⟨_, v', q1, q2, q3⟩ := HU.out.1 q
      rw [HV.out] at q1; cases q1; exact hv0 q2)
     go_wp2_with fail
     refine kAB (by kernel_rfl) (by kernel_rfl) ?_
     repeat (go_big_quiet_step (first | fail | exact Later.call (kFQ _ hbd.out.1 hbd.out.2 _ (E1.out.at_ _))))
     refine wpQuiet_nil ?_
     rintro _ ⟨t9, rfl⟩
     go_wp2_with fail
     go_ret
     exact ⟨by rw [HN.out]; rfl, hb.trans (t9.b.mono hb.size)⟩
 · have HN : Hid (kBB s = false) := hJ (by
    rw [Bool.eq_false_iff]
    rintro q
    obtain ⟨_, v', q1, q2, q3⟩ := HU.out.1 q
    exact hv v' q1)
   clear hv
   go_wp2_with fail
   refine kAB (by kernel_rfl) (by kernel_rfl) ?_
   repeat (go_big_quiet_step (first | fail | exact Later.call (kFQ _ (by decide) (by decide) _ (EE.out.at_ _))))
   refine wpQuiet_nil ?_
   rintro _ ⟨t9, rfl⟩
   go_wp2_with fail
   go_ret
   exact ⟨by rw [HN.out]; rfl, hb.trans (t9.b.mono hb.size)⟩
theorem conv_str (s : Str) (w : World) : ∃ c w1, (convert 9 153 (.string s)).run Tryz.prog w = .ok (.slice (some ⟨w.heap.size, 0, none⟩) s.size c) w1 ∧ (∀ k, k < s.size → w1.cell? ⟨w.heap.size, k, none⟩ = some (.int .u8 (bt s k))) ∧ Below w.heap.size w w1 := by
 refine ⟨_, _, run_bytes_of_string (P := Tryz.prog) w 9 153 5 s underlying9 underlying153 underlying5, fun i hi => ?_, ((Below.refl _ _).drew).alloc (Nat.le_refl _) _⟩
 refine (World.cell?_alloc_mark w.drew _ _ _ i).trans ?_
 rw [bytesRow_at s _ i hi]
 congr 2
 exact kFD s i hi
theorem other_stop (s : Str) (h : bt s 0 ≠ 95) (k : Nat) (hk : k < s.size) (h1 : kA6 (bt s k) = false) (h2 : k ≠ 0 → kA3 (bt s k) = false) : kBB s = false := by
 rw [kFO s h, kD1 hk (by rw [h1]; rcases Nat.eq_zero_or_pos k with q | q; subst q; rfl; rw [h2 (by omega)]; simp), Bool.and_false]
theorem linear_Name_other (s : Str) (h95 : bt s 0 ≠ 95) (hs : s.size ≤ 281474976710656) (w : World) : Calls Tryz.prog 130 #[.string s] w fun e w' => e = .returned (.bool (kBB s)) ∧ Below w.heap.size w w' := by
 obtain ⟨c0, w0, hcv, hr, hB0⟩ := conv_str s w; have HR := hJ hr; have H95 := hJ h95; clear h95 hr
 go_enter func130, ntmps130
 go_wp2_with fail
 refine (pre_no s H95.out w).mono ?_
 rintro e _ ⟨rfl, rfl⟩
 go_wp2_with fail
 go_loopw [36] (fun i wr => ∃ k : Nat, k ≤ s.size ∧ i = .int .i64 k ∧ Hid (∀ j, j < k → (kA6 (bt s j) || (j != 0 && kA3 (bt s j))) = true) ∧ w0 = wr) (fun i _ => s.size - (intOf i).toNat)
 case atStart => exact ⟨0, Nat.zero_le _, rfl, fun j hj => absurd hj (by omega), rfl⟩
 case round =>
  obtain ⟨k, hk, rfl, HT, rfl⟩ := hrel
  by_cases hlt : k < s.size
  · have hc := HR.out k hlt
    obtain ⟨hb1, hb2⟩ := bt_byte s k; have HStop := hJ (other_stop s H95.out k hlt)
    have HGo : Hid ((kA6 (bt s k) || (k != 0 && kA3 (bt s k))) = true → ∀ j, j < k + 1 → (kA6 (bt s j) || (j != 0 && kA3 (bt s j))) = true) := hJ (fun q j hj => by
     rcases Nat.lt_or_ge j k with r | r
     · exact HT.out j r
     · obtain rfl : j = k := by omega
       exact q)
    generalize bt s k = c at *
    by_cases a1 : 97 ≤ c ∧ c ≤ 122
    · have HG := hJ (HGo.out (by simp [kA6, a1]))
      obtain ⟨a1, a2⟩ := a1
      go_wp2_with fail
      go_roundw
      case rel => exact ⟨k + 1, by omega, by go_num, HG, trivial⟩
      case measure => simp [intOf]; omega
    · have HL : Hid (kA6 c = false) := hJ (by simpa [kA6] using a1)
      have a2 : c < 97 ∨ 122 < c := by omega
      clear a1
      by_cases hk0 : k = 0
      · have HF := hJ (HStop.out HL.out (fun q => absurd hk0 q))
        have hkz : ((k : Int) == 0) = true := beq_iff_eq.2 (by omega)
        clear hk0
        rcases a2 with a2 | a2
        all_goals
         go_wp2_with fail
         go_ret
         exact ⟨by rw [HF.out]; rfl, hB0⟩
      · have hkz : ((k : Int) == 0) = false := beq_eq_false_iff_ne.2 (by omega)
        have HK := hJ hk0; clear hk0
        by_cases a3 : 48 ≤ c ∧ c ≤ 57
        · have HG := hJ (HGo.out (by simp [HL.out, kA3, a3, HK.out]))
          obtain ⟨a3, a4⟩ := a3
          have a5 : c < 97 := by omega
          clear a2
          go_wp2_with fail
          go_roundw
          case rel => exact ⟨k + 1, by omega, by go_num, HG, trivial⟩
          case measure => simp [intOf]; omega
        · have HF := hJ (HStop.out HL.out (fun _ => by simpa [kA3] using a3))
          have a4 : c < 48 ∨ (57 < c ∧ c < 97) ∨ 122 < c := by omega
          clear a2 a3
          rcases a4 with a4 | ⟨a4, a5⟩ | a4
          all_goals
           go_wp2_with fail
           go_ret
           exact ⟨by rw [HF.out]; rfl, hB0⟩
  · obtain rfl : k = s.size := by omega
    have HV : Hid (kBB s = decide (1 ≤ s.size ∧ s.size ≤ 30)) := hJ (by rw [kFO s H95.out, kCH HT.out, Bool.and_true])
    by_cases h0 : s.size = 0
    · have he : s.toList.isEmpty = true := by rw [ByteArray.toList_eq, show s.data.toList = [] from List.eq_nil_of_length_eq_zero h0]; rfl
      go_wp2_with fail
      go_ret
      exact ⟨by rw [HV.out, decide_eq_false (by omega)]; rfl, hB0⟩
    · have he : s.toList.isEmpty = false := by
       rw [ByteArray.toList_eq, List.isEmpty_eq_false_iff]
       exact fun q => h0 (by show s.data.toList.length = 0; rw [q]; rfl)
      go_wp2_with fail
      go_ret
      exact ⟨by rw [HV.out, ← decide_eq_decide.2 (show (s.size : Int) ≤ 30 ↔ 1 ≤ s.size ∧ s.size ≤ 30 by omega)]; rfl, hB0⟩
theorem kBS (s : Str) (hs : s.size ≤ 281474976710656) (w : World) (E : Env w) : Calls Tryz.prog 130 #[.string s] w fun e w' => e = .returned (.bool (kBB s)) ∧ Below w.heap.size w w' := by
 by_cases h : bt s 0 = 95
 · exact linear_Name_under s h hs w E
 · exact linear_Name_other s h hs w
def kB4 (c : Int) : Bool := decide (-1000000 ≤ c ∧ c ≤ 1000000)
def kD5 (l : List Coef) (i : Nat) : Bool := kBB (l.getD i default).v && (l.getD i default).c != 0 && kB4 (l.getD i default).c && (i == 0 || slt (l.getD (i - 1) default).v (l.getD i default).v)
def kE7 (l : List Coef) : Bool := (List.range l.length).all (kD5 l)
def kAD (x : Lin) : Bool := kE7 x.terms && kB4 x.const && decide (x.terms.length ≤ 12)
theorem lift {P : Program} {f : FuncId} {args : Array Value} {W w : World} {A : Ending → World → Prop} (hb : Below W.heap.size W w) (h : Calls P f args w fun e w' => A e w' ∧ Below w.heap.size w w') : Calls P f args w fun e w' => A e w' ∧ Below W.heap.size W w' :=
 h.mono fun e w' ⟨he, hb'⟩ => ⟨he, hb.trans (hb'.mono hb.size)⟩
theorem kAC {W : World} {a : Addr} {v : Value} (h : W.cell? a = some v) : ∀ w', Below W.heap.size W w' → w'.cell? a = some v := fun w' hb => by rw [hb.cell (kCG h)]; exact h
theorem kCY {α : Type} [Inhabited α] {l : List α} {k : Nat} (h : k < l.length) : l[k]? = some (l.getD k default) := by
 rw [List.getD_eq_getElem?_getD, List.getElem?_eq_getElem h]; rfl
theorem kAI {α : Type} [Inhabited α] {l : List α} {k : Nat} (h : k < l.length) : l.getD k default ∈ l := List.mem_iff_getElem?.2 ⟨k, kCY h⟩
theorem Sl.coef {S : Blk} {w : World} {b off n c : Nat} {l : List Coef} (h : Sl kBP S w (some ⟨b, off, none⟩) n c l) (k : Nat) (hk : k < n) :
 w.cell? ⟨b, off + k * 2, none⟩ = some (.string (l.getD k default).v) ∧ w.cell? ⟨b, off + k * 2 + 1, none⟩ = some (.int .i64 (l.getD k default).c) := by
 obtain ⟨cs, hr, hc⟩ := h.cells k _ (kCY (by rw [h.len]; exact hk))
 obtain rfl : cs = _ := hr
 exact ⟨hc 0 _ rfl, hc 1 _ rfl⟩
theorem kDZ {x : Lin} {k : Nat} (hk : k < x.terms.length) (h : kD5 x.terms k = false) : kAD x = false := by
 unfold kAD kE7
 rw [kD1 hk h]; rfl
theorem kC9 (n : Int) (w : World) : Calls Tryz.prog 131 #[.int .i64 n] w fun e w' => e = .returned (.bool (kB4 n)) ∧ w = w' := by
 unfold kB4
 by_cases h0 : -1000000 ≤ n <;> by_cases h1 : n ≤ 1000000
 all_goals
  go_enter func131, ntmps131
  go_wp2_with fail
  go_ret
  exact ⟨by simp [h0, h1], rfl⟩
def szL (x : Lin) : Prop := ∀ t ∈ x.terms, t.v.size ≤ 2000000
theorem kDA {S : Blk} (x : Lin) (a : Option Addr) (n c : Nat) (w : World) (h : Sl kBP S w a n c x.terms) (hz : szL x) (E : Env w) :
 Calls Tryz.prog 80 #[.agg #[.int .i64 x.const, .slice a n c]] w fun e w' => e = .returned (.bool (kAD x)) ∧ Below w.heap.size w w' := by
 have H := hJ h
 have hn : n ≤ 9223372036854775807 := by have := h.cap; have := h.max; unfold maxLen at this; omega
 have HZ := hJ hz; have EE := hJ E; clear h hz E
 go_enter func80, ntmps80
 go_wp2_with fail
 have B0 : Hid (Below w.heap.size w (w.alloc (.cells #[.int .i64 x.const, .slice a n c] 65))) := hJ ((Below.refl _ _).alloc (Nat.le_refl _) _)
 have hbox : (w.alloc (.cells #[.int .i64 x.const, .slice a n c] 65)).cell? ⟨w.heap.size, 1, none⟩ = some (.slice a n c) := by simp [go_sem]
 have hbox0 : (w.alloc (.cells #[.int .i64 x.const, .slice a n c] 65)).cell? ⟨w.heap.size, 0, none⟩ = some (.int .i64 x.const) := by simp [go_sem]
 generalize (w.alloc (.cells #[.int .i64 x.const, .slice a n c] 65)) = W at *
 have H0 := hJ (H.out.below B0.out); have E0 := hJ (EE.out.below B0.out)
 go_loopw [8] (fun i wr => ∃ k : Nat, k ≤ n ∧ i = .int .i64 k ∧ Hid (∀ j, j < k → kD5 x.terms j = true) ∧ Below W.heap.size W wr) (fun i _ => n - (intOf i).toNat)
 case atStart => exact ⟨0, Nat.zero_le _, rfl, fun j hj => absurd hj (by omega), Below.refl _ _⟩
 case round =>
  obtain ⟨k, hk, rfl, HT, hB⟩ := hrel
  by_cases hlt : k < n
  · obtain ⟨b, off, rfl, hbW, _⟩ := H0.out.form k hlt
    have HR := hJ (H0.out.below hB); obtain ⟨c0, c1⟩ := HR.out.coef k hlt
    have HK : Hid (k < x.terms.length) := hJ (by rw [H.out.len]; exact hlt)
    have HTK : Hid (kD5 x.terms k = (kBB (x.terms.getD k default).v && (x.terms.getD k default).c != 0 && kB4 (x.terms.getD k default).c && (k == 0 || slt (x.terms.getD (k - 1) default).v (x.terms.getD k default).v))) := hJ rfl
    have hzt : (x.terms.getD k default).v.size ≤ 281474976710656 := Nat.le_trans (HZ.out _ (kAI HK.out)) (by decide)
    generalize x.terms.getD k default = t at *
    go_wp2_with (fail)
    have hx1 := (kAC hbox _ (hB.alloc hB.size (.cells #[.string t.v, .int .i64 t.c] 62)))
    have hv0 : (wr.alloc (.cells #[.string t.v, .int .i64 t.c] 62)).cell? ⟨wr.heap.size, 0, none⟩ = some (.string t.v) := by simp [go_sem]
    have hv1 : (wr.alloc (.cells #[.string t.v, .int .i64 t.c] 62)).cell? ⟨wr.heap.size, 1, none⟩ = some (.int .i64 t.c) := by simp [go_sem]
    have hB2 := hB.alloc hB.size (.cells #[.string t.v, .int .i64 t.c] 62); clear c0 c1 hbox hbox0
    generalize (wr.alloc (.cells #[.string t.v, .int .i64 t.c] 62)) = w2 at *
    have hv0 := Later.cell hv0; have hv1 := Later.cell hv1; have hx1 := Later.cell hx1; clear hB; have HB2 := hJ hB2; have E2 := hJ (E0.out.below HB2.out); clear hB2
    by_cases hnm : kBB t.v = true
    · by_cases hc : t.c = 0
      · have hc' : (t.c == 0) = true := by rw [hc]; rfl
        have HF : Hid (kAD x = false) := hJ (kDZ HK.out (by rw [HTK.out, hnm, hc]; rfl))
        clear hc
        refine kAB (by kernel_rfl) (by kernel_rfl) ?_
        repeat (go_big_quiet_step (first | fail | exact Later.call (kBS _ hzt _ (E2.out.at_ _)) | exact Later.same (kC9 _ _)))
        refine wpQuiet_nil ?_
        rintro _ ⟨t9, rfl⟩
        go_wp2_with fail
        go_ret
        exact ⟨by rw [HF.out]; rfl, B0.out.trans ((HB2.out.trans (t9.b.mono HB2.out.size)).mono B0.out.size)⟩
      · have hc' : (t.c == 0) = false := beq_eq_false_iff_ne.2 hc
        have hcn : (t.c != 0) = true := bne_iff_ne.2 hc
        by_cases hs : kB4 t.c = true
        · cases k with
          | zero =>
            have HO : Hid (kD5 x.terms 0 = true) := hJ (by rw [HTK.out, hnm, hcn, hs]; rfl)
            clear hc hcn
            refine kAB (by kernel_rfl) (by kernel_rfl) ?_
            repeat (go_big_quiet_step (first | fail | exact Later.call (kBS _ hzt _ (E2.out.at_ _)) | exact Later.same (kC9 _ _)))
            refine wpQuiet_nil ?_
            rintro _ ⟨t9, rfl⟩
            go_wp2_with fail
            go_roundw
            case rel => exact ⟨1, by omega, by go_num, hJ (fun j hj => (by omega : j = 0) ▸ HO.out), HB2.out.trans (t9.b.mono HB2.out.size)⟩
            case measure => simp [intOf]; omega
          | succ k =>
            have hp := Later.cell ((H0.out.below HB2.out).coef k (by omega)).1
            have hk0 : (0 : Int) < ((k + 1 : Nat) : Int) := by omega
            have hki : (((k + 1 : Nat) : Int) - 1) = (k : Int) := by omega
            simp only [Nat.add_sub_cancel] at HTK
            generalize x.terms.getD k default = p at *
            by_cases ho : Op.bytesLess p.v.toList t.v.toList = true
            · have HO : Hid (kD5 x.terms (k + 1) = true) := hJ (by rw [HTK.out, hnm, hcn, hs]; simpa [slt] using ho)
              clear hc hcn
              refine kAB (by kernel_rfl) (by kernel_rfl) ?_
              repeat (go_big_quiet_step (first | fail | exact Later.call (kBS _ hzt _ (E2.out.at_ _)) | exact Later.same (kC9 _ _)))
              refine wpQuiet_nil ?_
              rintro _ ⟨t9, rfl⟩
              go_wp2_with fail
              go_roundw
              case rel => exact ⟨k + 1 + 1, by omega, by go_num, hJ (fun j hj => by
               rcases Nat.lt_or_ge j (k + 1) with q | q
               · exact HT.out j q
               · obtain rfl : j = k + 1 := by omega
                 exact HO.out), HB2.out.trans (t9.b.mono HB2.out.size)⟩
              case measure => simp [intOf]; omega
            · have ho : Op.bytesLess p.v.toList t.v.toList = false := by simpa using ho
              have HF : Hid (kAD x = false) := hJ (kDZ HK.out (by rw [HTK.out, hnm, hcn, hs]; simpa [slt] using ho))
              clear hc hcn
              refine kAB (by kernel_rfl) (by kernel_rfl) ?_
              repeat (go_big_quiet_step (first | fail | exact Later.call (kBS _ hzt _ (E2.out.at_ _)) | exact Later.same (kC9 _ _)))
              refine wpQuiet_nil ?_
              rintro _ ⟨t9, rfl⟩
              go_wp2_with fail
              go_ret
              exact ⟨by rw [HF.out]; rfl, B0.out.trans ((HB2.out.trans (t9.b.mono HB2.out.size)).mono B0.out.size)⟩
        · have hs : kB4 t.c = false := by simpa using hs
          have HF : Hid (kAD x = false) := hJ (kDZ HK.out (by rw [HTK.out, hnm, hcn, hs]; rfl))
          clear hc hcn
          refine kAB (by kernel_rfl) (by kernel_rfl) ?_
          repeat (go_big_quiet_step (first | fail | exact Later.call (kBS _ hzt _ (E2.out.at_ _)) | exact Later.same (kC9 _ _)))
          refine wpQuiet_nil ?_
          rintro _ ⟨t9, rfl⟩
          go_wp2_with fail
          go_ret
          exact ⟨by rw [HF.out]; rfl, B0.out.trans ((HB2.out.trans (t9.b.mono HB2.out.size)).mono B0.out.size)⟩
    · have hnm : kBB t.v = false := by simpa using hnm
      have HF : Hid (kAD x = false) := hJ (kDZ HK.out (by rw [HTK.out, hnm]; rfl))
      refine kAB (by kernel_rfl) (by kernel_rfl) ?_
      repeat (go_big_quiet_step (first | fail | exact Later.call (kBS _ hzt _ (E2.out.at_ _)) | exact Later.same (kC9 _ _)))
      refine wpQuiet_nil ?_
      rintro _ ⟨t9, rfl⟩
      go_wp2_with fail
      go_ret
      exact ⟨by rw [HF.out]; rfl, B0.out.trans ((HB2.out.trans (t9.b.mono HB2.out.size)).mono B0.out.size)⟩
  · obtain rfl : k = n := by omega
    have HV : Hid (kAD x = (kB4 x.const && decide (x.terms.length ≤ 12))) := hJ (by
     unfold kAD kE7
     rw [H.out.len, kCH HT.out]; rfl)
    have hx0 := kAC hbox0 _ hB; have hx1 := kAC hbox _ hB; have HL := hJ H.out.len
    by_cases hs : kB4 x.const = true
    · go_wp2_with fail
      refine (kC9 _ _).mono ?_
      rintro e w5 ⟨rfl, rfl⟩
      go_wp2_with fail
      go_ret
      exact ⟨by rw [HV.out, hs, HL.out, Bool.true_and, ← decide_eq_decide.2 (show ((k : Int) ≤ 12 ↔ k ≤ 12) by omega)]; rfl, B0.out.trans (hB.mono B0.out.size)⟩
    · have hs : kB4 x.const = false := by simpa using hs
      go_wp2_with fail
      refine (kC9 _ _).mono ?_
      rintro e w5 ⟨rfl, rfl⟩
      go_wp2_with fail
      go_ret
      exact ⟨by rw [HV.out, hs]; rfl, B0.out.trans (hB.mono B0.out.size)⟩
theorem kEQ (c : Int) (w : World) : Calls Tryz.prog 162 #[.int .u8 c] w fun e w' => e = .returned (.bool (kA3 c)) ∧ w = w' := by
 unfold kA3
 by_cases h0 : 48 ≤ c <;> by_cases h1 : c ≤ 57
 all_goals
  go_enter func162, ntmps162
  go_wp2_with fail
  go_ret
  exact ⟨by simp [h0, h1], rfl⟩
theorem kDR (c : Int) (w : World) : Calls Tryz.prog 163 #[.int .u8 c] w fun e w' => e = .returned (.bool (kA6 c)) ∧ w = w' := by
 unfold kA6
 by_cases h0 : 97 ≤ c <;> by_cases h1 : c ≤ 122
 all_goals
  go_enter func163, ntmps163
  go_wp2_with fail
  go_ret
  exact ⟨by simp [h0, h1], rfl⟩
theorem kB2 (n : Int) (w : World) : Calls Tryz.prog 116 #[.int .i64 n] w fun e w' => e = .returned (.bool (kB4 n)) ∧ w = w' := by
 unfold kB4
 by_cases h0 : -1000000 ≤ n <;> by_cases h1 : n ≤ 1000000
 all_goals
  go_enter func116, ntmps116
  go_wp2_with fail
  go_ret
  exact ⟨by simp [h0, h1], rfl⟩
theorem name_long (s : Str) (h : s.size = 0 ∨ 30 < s.size) : kBB s = false := by
 unfold kBB
 split
 · rw [decide_eq_false (by omega)]; rfl
 · rw [decide_eq_false (by omega)]; rfl
theorem name_yes (s : Str) (h : bt s 0 = 95) : kBB s = (decide (2 ≤ s.size ∧ s.size ≤ 10 ∧ bt s 1 ≠ 48) && (List.range s.size).all (fun i => i == 0 || kA3 (bt s i))) := by
 unfold kBB; rw [if_pos h]
theorem yes_stop (s : Str) (h : bt s 0 = 95) (k : Nat) (hk : k < s.size) (h0 : 0 < k) (h2 : kA3 (bt s k) = false) : kBB s = false := by
 rw [name_yes s h, kD1 hk (by rw [h2, beq_eq_false_iff_ne.2 (by omega : k ≠ 0)]; rfl), Bool.and_false]
theorem kCD (s : Str) (w : World) (hsz : s.size ≤ 281474976710656) : Calls Tryz.prog 117 #[.string s] w fun e w' => e = .returned (.bool (kBB s)) ∧ w = w' := by
 by_cases h0 : s.size = 0
 · have HF := hJ (name_long s (.inl h0))
   go_enter func117, ntmps117
   go_wp2_with fail
   go_ret
   exact ⟨by rw [HF.out]; rfl, rfl⟩
 by_cases h30 : 30 < s.size
 · have HF := hJ (name_long s (.inr h30))
   have q1 : decide (30 < (s.size : Int)) = true := decide_eq_true (by omega)
   have q2 : ((s.size : Int) == 0) = false := beq_eq_false_iff_ne.2 (by omega)
   go_enter func117, ntmps117
   go_wp2_with fail
   go_ret
   exact ⟨by rw [HF.out]; rfl, rfl⟩
 have q1 : decide (30 < (s.size : Int)) = false := decide_eq_false (by omega)
 have q2 : ((s.size : Int) == 0) = false := beq_eq_false_iff_ne.2 (by omega)
 have hp0 : 0 < s.size := by omega
 have g0 := kFD s 0 hp0
 by_cases h95 : bt s 0 = 95
 · have HY := hJ (name_yes s h95)
   have HS := hJ (yes_stop s h95)
   have g95 : (bt s 0 == 95) = true := beq_iff_eq.2 h95
   rw [h95] at g0; clear h95
   by_cases h2 : s.size < 2
   · have HF : Hid (kBB s = false) := hJ (by rw [HY.out, decide_eq_false (by omega)]; rfl)
     have r1 : decide ((s.size : Int) < 2) = true := decide_eq_true (by omega)
     go_enter func117, ntmps117
     go_wp2_with fail
     go_ret
     exact ⟨by rw [HF.out]; rfl, rfl⟩
   have r1 : decide ((s.size : Int) < 2) = false := decide_eq_false (by omega)
   by_cases h10 : 10 < s.size
   · have HF : Hid (kBB s = false) := hJ (by rw [HY.out, decide_eq_false (by omega)]; rfl)
     have r2 : decide (10 < (s.size : Int)) = true := decide_eq_true (by omega)
     go_enter func117, ntmps117
     go_wp2_with fail
     go_ret
     exact ⟨by rw [HF.out]; rfl, rfl⟩
   have r2 : decide (10 < (s.size : Int)) = false := decide_eq_false (by omega)
   have g1 := kFD s 1 (by omega)
   by_cases h48 : bt s 1 = 48
   · have HF : Hid (kBB s = false) := hJ (by rw [HY.out, decide_eq_false (by omega)]; rfl)
     rw [h48] at g1; clear h48
     go_enter func117, ntmps117
     go_wp2_with fail
     go_ret
     exact ⟨by rw [HF.out]; rfl, rfl⟩
   have r3 : (bt s 1 == 48) = false := beq_eq_false_iff_ne.2 h48
   have HY2 : Hid (kBB s = (List.range s.size).all (fun i => i == 0 || kA3 (bt s i))) := hJ (by rw [HY.out, decide_eq_true (by omega)]; rfl)
   clear h48
   go_enter func117, ntmps117
   go_wp2_with fail
   go_loopw [3] (fun i wr => ∃ k : Nat, 1 ≤ k ∧ k ≤ s.size ∧ i = .int .i64 k ∧ Hid (∀ j, j < k → (j == 0 || kA3 (bt s j)) = true) ∧ w = wr) (fun i _ => s.size - (intOf i).toNat)
   case atStart => exact ⟨1, by omega, by omega, rfl, hJ (fun j hj => by rw [show j = 0 by omega]; rfl), rfl⟩
   case round =>
    obtain ⟨k, hk1, hk, rfl, HT, rfl⟩ := hrel
    by_cases hlt : k < s.size
    · have gk := kFD s k hlt
      by_cases hd : kA3 (bt s k) = true
      · have HG : Hid (∀ j, j < k + 1 → (j == 0 || kA3 (bt s j)) = true) := hJ (fun j hj => by
         rcases Nat.lt_or_ge j k with r | r
         · exact HT.out j r
         · obtain rfl : j = k := by omega
           rw [hd, Bool.or_true])
        generalize bt s k = c at *
        go_wp2_with fail
        refine (kEQ _ _).mono ?_
        rintro e _ ⟨rfl, rfl⟩
        go_wp2_with fail
        go_roundw
        case rel => exact ⟨k + 1, by omega, by omega, by go_num, HG, trivial⟩
        case measure => simp [intOf]; omega
      · have hd : kA3 (bt s k) = false := by simpa using hd
        have HF := hJ (HS.out k hlt (by omega) hd)
        generalize bt s k = c at *
        go_wp2_with fail
        refine (kEQ _ _).mono ?_
        rintro e _ ⟨rfl, rfl⟩
        go_wp2_with fail
        go_ret
        exact ⟨by rw [HF.out]; rfl, rfl⟩
    · obtain rfl : k = s.size := by omega
      have HF : Hid (kBB s = true) := hJ (by rw [HY2.out, kCH HT.out])
      go_wp2_with fail
      go_ret
      exact ⟨by rw [HF.out]; rfl, rfl⟩
 · have g95 : (bt s 0 == 95) = false := beq_eq_false_iff_ne.2 h95
   have HN := hJ (kFO s h95)
   have HN2 : Hid (kBB s = (List.range s.size).all (fun i => kA6 (bt s i) || (i != 0 && kA3 (bt s i)))) := hJ (by rw [HN.out, decide_eq_true (by omega)]; rfl)
   have HS := hJ (other_stop s h95)
   generalize hc0 : bt s 0 = c0 at *
   have HC0 := hJ hc0; clear hc0 h95
   go_enter func117, ntmps117
   go_wp2_with fail
   go_loopw [4] (fun i wr => ∃ k : Nat, k ≤ s.size ∧ i = .int .i64 k ∧ Hid (∀ j, j < k → (kA6 (bt s j) || (j != 0 && kA3 (bt s j))) = true) ∧ w = wr) (fun i _ => s.size - (intOf i).toNat)
   case atStart => exact ⟨0, by omega, rfl, hJ (fun j hj => absurd hj (by omega)), rfl⟩
   case round =>
    obtain ⟨k, hk, rfl, HT, rfl⟩ := hrel
    by_cases hlt : k < s.size
    · have gk := kFD s k hlt
      have HG : Hid ((kA6 (bt s k) || (k != 0 && kA3 (bt s k))) = true → ∀ j, j < k + 1 → (kA6 (bt s j) || (j != 0 && kA3 (bt s j))) = true) := hJ (fun q j hj => by
       rcases Nat.lt_or_ge j k with r | r
       · exact HT.out j r
       · obtain rfl : j = k := by omega
         exact q)
      have HSk := hJ (HS.out k hlt)
      generalize bt s k = c at *
      by_cases hl : kA6 c = true
      · have HGo := hJ (HG.out (by rw [hl]; rfl))
        go_wp2_with fail
        refine (kDR _ _).mono ?_
        rintro e _ ⟨rfl, rfl⟩
        go_wp2_with fail
        go_roundw
        case rel => exact ⟨k + 1, by omega, by go_num, HGo, trivial⟩
        case measure => simp [intOf]; omega
      · have hl : kA6 c = false := by simpa using hl
        by_cases hk0 : k = 0
        · have HF := hJ (HSk.out hl (fun q => absurd hk0 q))
          have hkz : ((k : Int) == 0) = true := beq_iff_eq.2 (by omega)
          clear hk0
          go_wp2_with fail
          refine (kDR _ _).mono ?_
          rintro e _ ⟨rfl, rfl⟩
          go_wp2_with fail
          go_ret
          exact ⟨by rw [HF.out]; rfl, rfl⟩
        · have hkz : ((k : Int) == 0) = false := beq_eq_false_iff_ne.2 (by omega)
          by_cases hd : kA3 c = true
          · have HGo := hJ (HG.out (by rw [hl, hd, bne_iff_ne.2 hk0]; rfl))
            clear hk0
            go_wp2_with fail
            refine (kDR _ _).mono ?_
            rintro e _ ⟨rfl, rfl⟩
            go_wp2_with fail
            refine (kEQ _ _).mono ?_
            rintro e _ ⟨rfl, rfl⟩
            go_wp2_with fail
            go_roundw
            case rel => exact ⟨k + 1, by omega, by go_num, HGo, trivial⟩
            case measure => simp [intOf]; omega
          · have hd : kA3 c = false := by simpa using hd
            have HF := hJ (HSk.out hl (fun _ => hd))
            clear hk0
            go_wp2_with fail
            refine (kDR _ _).mono ?_
            rintro e _ ⟨rfl, rfl⟩
            go_wp2_with fail
            refine (kEQ _ _).mono ?_
            rintro e _ ⟨rfl, rfl⟩
            go_wp2_with fail
            go_ret
            exact ⟨by rw [HF.out]; rfl, rfl⟩
    · obtain rfl : k = s.size := by omega
      have HF : Hid (kBB s = true) := hJ (by rw [HN2.out, kCH HT.out])
      go_wp2_with fail
      go_ret
      exact ⟨by rw [HF.out]; rfl, rfl⟩
theorem valid_bad_const {x : Lin} (h : kB4 x.const = false) : kAD x = false := by unfold kAD; rw [h]; simp
theorem valid_bad_len {x : Lin} (h : 12 < x.terms.length) : kAD x = false := by unfold kAD; rw [decide_eq_false (by omega)]; simp
theorem ref04_Valid {S : Blk} (x : Lin) (a : Option Addr) (n c : Nat) (w : World) (h : Sl kBP S w a n c x.terms) (hz : szL x) :
 Calls Tryz.prog 67 #[.agg #[.int .i64 x.const, .slice a n c]] w fun e w' => e = .returned (.bool (kAD x)) ∧ Below w.heap.size w w' := by
 have H := hJ h
 have hn : n ≤ 9223372036854775807 := by have := h.cap; have := h.max; unfold maxLen at this; omega
 have HZ := hJ hz; clear h hz
 have B0 : Hid (Below w.heap.size w (w.alloc (.cells #[.int .i64 x.const, .slice a n c] 65))) := hJ ((Below.refl _ _).alloc (Nat.le_refl _) _)
 have hbox : (w.alloc (.cells #[.int .i64 x.const, .slice a n c] 65)).cell? ⟨w.heap.size, 1, none⟩ = some (.slice a n c) := by simp [go_sem]
 have hbox0 : (w.alloc (.cells #[.int .i64 x.const, .slice a n c] 65)).cell? ⟨w.heap.size, 0, none⟩ = some (.int .i64 x.const) := by simp [go_sem]
 by_cases hs : kB4 x.const = true
 case neg =>
  have hs : kB4 x.const = false := by simpa using hs
  have HF := hJ (valid_bad_const hs); clear hbox hbox0
  go_enter func67, ntmps67
  go_wp2_with fail
  refine (kB2 _ _).mono ?_
  rintro e _ ⟨rfl, rfl⟩
  go_wp2_with fail
  go_ret
  exact ⟨by rw [HF.out]; rfl, B0.out⟩
 by_cases h12 : 12 < n
 · have HF := hJ (valid_bad_len (x := x) (by rw [H.out.len]; exact h12))
   have q1 : decide (12 < (n : Int)) = true := decide_eq_true (by omega)
   clear hbox hbox0
   go_enter func67, ntmps67
   go_wp2_with fail
   refine (kB2 _ _).mono ?_
   rintro e _ ⟨rfl, rfl⟩
   go_wp2_with fail
   go_ret
   exact ⟨by rw [HF.out]; rfl, B0.out⟩
 have q1 : decide (12 < (n : Int)) = false := decide_eq_false (by omega)
 go_enter func67, ntmps67
 go_wp2_with fail
 refine (kB2 _ _).mono ?_
 rintro e _ ⟨rfl, rfl⟩
 go_wp2_with fail
 generalize (w.alloc (.cells #[.int .i64 x.const, .slice a n c] 65)) = W at *
 have H0 := hJ (H.out.below B0.out)
 go_loopw [3] (fun i wr => ∃ k : Nat, k ≤ n ∧ i = .int .i64 k ∧ Hid (∀ j, j < k → kD5 x.terms j = true) ∧ Below W.heap.size W wr) (fun i _ => n - (intOf i).toNat)
 case atStart => exact ⟨0, Nat.zero_le _, rfl, fun j hj => absurd hj (by omega), Below.refl _ _⟩
 case round =>
  obtain ⟨k, hk, rfl, HT, hB⟩ := hrel; have hxx := kAC hbox _ hB
  by_cases hlt : k < n
  · obtain ⟨b, off, rfl, hbW, _⟩ := H0.out.form k hlt
    have HR := hJ (H0.out.below hB); obtain ⟨c0, c1⟩ := HR.out.coef k hlt
    have HK : Hid (k < x.terms.length) := hJ (by rw [H.out.len]; exact hlt)
    have HTK : Hid (kD5 x.terms k = (kBB (x.terms.getD k default).v && (x.terms.getD k default).c != 0 && kB4 (x.terms.getD k default).c && (k == 0 || slt (x.terms.getD (k - 1) default).v (x.terms.getD k default).v))) := hJ rfl
    have hzt : (x.terms.getD k default).v.size ≤ 281474976710656 := Nat.le_trans (HZ.out _ (kAI HK.out)) (by decide)
    generalize x.terms.getD k default = t at *
    go_wp2_with (fail)
    have hx1 := (kAC hbox _ (hB.alloc hB.size (.cells #[.string t.v, .int .i64 t.c] 62)))
    have hv0 : (wr.alloc (.cells #[.string t.v, .int .i64 t.c] 62)).cell? ⟨wr.heap.size, 0, none⟩ = some (.string t.v) := by simp [go_sem]
    have hv1 : (wr.alloc (.cells #[.string t.v, .int .i64 t.c] 62)).cell? ⟨wr.heap.size, 1, none⟩ = some (.int .i64 t.c) := by simp [go_sem]
    have hB2 := hB.alloc hB.size (.cells #[.string t.v, .int .i64 t.c] 62); clear c0 c1 hbox hbox0 hxx
    generalize (wr.alloc (.cells #[.string t.v, .int .i64 t.c] 62)) = w2 at *
    have hv0 := Later.cell hv0; have hv1 := Later.cell hv1; have hx1 := Later.cell hx1; clear hB; have HB2 := hJ hB2; clear hB2
    by_cases hnm : kBB t.v = true
    · by_cases hc : t.c = 0
      · have hc' : (t.c == 0) = true := by rw [hc]; rfl
        have HF : Hid (kAD x = false) := hJ (kDZ HK.out (by rw [HTK.out, hnm, hc]; rfl))
        clear hc
        refine kAB (by kernel_rfl) (by kernel_rfl) ?_
        repeat (go_big_quiet_step (first | fail | exact Later.same (kCD _ _ hzt) | exact Later.same (kB2 _ _)))
        refine wpQuiet_nil ?_
        rintro _ ⟨t9, rfl⟩
        go_wp2_with fail
        go_ret
        exact ⟨by rw [HF.out]; rfl, B0.out.trans ((HB2.out.trans (t9.b.mono HB2.out.size)).mono B0.out.size)⟩
      · have hc' : (t.c == 0) = false := beq_eq_false_iff_ne.2 hc
        have hcn : (t.c != 0) = true := bne_iff_ne.2 hc
        by_cases hs : kB4 t.c = true
        · cases k with
          | zero =>
            have HO : Hid (kD5 x.terms 0 = true) := hJ (by rw [HTK.out, hnm, hcn, hs]; rfl)
            clear hc hcn
            refine kAB (by kernel_rfl) (by kernel_rfl) ?_
            repeat (go_big_quiet_step (first | fail | exact Later.same (kCD _ _ hzt) | exact Later.same (kB2 _ _)))
            refine wpQuiet_nil ?_
            rintro _ ⟨t9, rfl⟩
            go_wp2_with fail
            go_roundw
            case rel => exact ⟨1, by omega, by go_num, hJ (fun j hj => (by omega : j = 0) ▸ HO.out), HB2.out.trans (t9.b.mono HB2.out.size)⟩
            case measure => simp [intOf]; omega
          | succ k =>
            have hp := Later.cell ((H0.out.below HB2.out).coef k (by omega)).1
            have hk0 : (0 : Int) < ((k + 1 : Nat) : Int) := by omega
            have hki : (((k + 1 : Nat) : Int) - 1) = (k : Int) := by omega
            simp only [Nat.add_sub_cancel] at HTK
            generalize x.terms.getD k default = p at *
            by_cases ho : Op.bytesLess p.v.toList t.v.toList = true
            · have HO : Hid (kD5 x.terms (k + 1) = true) := hJ (by rw [HTK.out, hnm, hcn, hs]; simpa [slt] using ho)
              clear hc hcn
              refine kAB (by kernel_rfl) (by kernel_rfl) ?_
              repeat (go_big_quiet_step (first | fail | exact Later.same (kCD _ _ hzt) | exact Later.same (kB2 _ _)))
              refine wpQuiet_nil ?_
              rintro _ ⟨t9, rfl⟩
              go_wp2_with fail
              go_roundw
              case rel => exact ⟨k + 1 + 1, by omega, by go_num, hJ (fun j hj => by
               rcases Nat.lt_or_ge j (k + 1) with q | q
               · exact HT.out j q
               · obtain rfl : j = k + 1 := by omega
                 exact HO.out), HB2.out.trans (t9.b.mono HB2.out.size)⟩
              case measure => simp [intOf]; omega
            · have ho : Op.bytesLess p.v.toList t.v.toList = false := by simpa using ho
              have HF : Hid (kAD x = false) := hJ (kDZ HK.out (by rw [HTK.out, hnm, hcn, hs]; simpa [slt] using ho))
              clear hc hcn
              refine kAB (by kernel_rfl) (by kernel_rfl) ?_
              repeat (go_big_quiet_step (first | fail | exact Later.same (kCD _ _ hzt) | exact Later.same (kB2 _ _)))
              refine wpQuiet_nil ?_
              rintro _ ⟨t9, rfl⟩
              go_wp2_with fail
              go_ret
              exact ⟨by rw [HF.out]; rfl, B0.out.trans ((HB2.out.trans (t9.b.mono HB2.out.size)).mono B0.out.size)⟩
        · have hs : kB4 t.c = false := by simpa using hs
          have HF : Hid (kAD x = false) := hJ (kDZ HK.out (by rw [HTK.out, hnm, hcn, hs]; rfl))
          clear hc hcn
          refine kAB (by kernel_rfl) (by kernel_rfl) ?_
          repeat (go_big_quiet_step (first | fail | exact Later.same (kCD _ _ hzt) | exact Later.same (kB2 _ _)))
          refine wpQuiet_nil ?_
          rintro _ ⟨t9, rfl⟩
          go_wp2_with fail
          go_ret
          exact ⟨by rw [HF.out]; rfl, B0.out.trans ((HB2.out.trans (t9.b.mono HB2.out.size)).mono B0.out.size)⟩
    · have hnm : kBB t.v = false := by simpa using hnm
      have HF : Hid (kAD x = false) := hJ (kDZ HK.out (by rw [HTK.out, hnm]; rfl))
      refine kAB (by kernel_rfl) (by kernel_rfl) ?_
      repeat (go_big_quiet_step (first | fail | exact Later.same (kCD _ _ hzt) | exact Later.same (kB2 _ _)))
      refine wpQuiet_nil ?_
      rintro _ ⟨t9, rfl⟩
      go_wp2_with fail
      go_ret
      exact ⟨by rw [HF.out]; rfl, B0.out.trans ((HB2.out.trans (t9.b.mono HB2.out.size)).mono B0.out.size)⟩
  · obtain rfl : k = n := by omega
    have HF : Hid (kAD x = true) := hJ (by
     unfold kAD kE7
     rw [H.out.len, kCH HT.out, hs, decide_eq_true (by omega)]; rfl)
    go_wp2_with fail
    go_ret
    exact ⟨by rw [HF.out]; rfl, B0.out.trans (hB.mono B0.out.size)⟩
open Go.Shelf
def kAV (s : Str) : Bool := decide (1 ≤ s.size ∧ s.size ≤ 30) && (decide (65 ≤ bt s 0 ∧ bt s 0 ≤ 90) && (List.range s.size).all (fun i => i == 0 || kA3 (bt s i)))
def digitsC : Str := ⟨#[48, 49, 50, 51, 52, 53, 54, 55, 56, 57]⟩
theorem kGY : ∀ i : Fin 256, digitsC.data.toList.contains (UInt8.ofNat i.val) = kA3 (i.val : Int) := by decide +kernel
theorem kFX (c : UInt8) : digitsC.data.toList.contains c = kA3 (c.toNat : Int) := by
 have := kGY ⟨c.toNat, c.toNat_lt⟩
 simp only [UInt8.ofNat_toNat] at this
 exact this
theorem drop_all {α : Type} (p : α → Bool) : ∀ l : List α, (l.dropWhile p = [] ↔ ∀ x ∈ l, p x = true)
 | [] => by simp
 | a :: l => by
   rw [List.dropWhile_cons]
   split
   · next h => rw [drop_all p l]; simp [h]
   · next h => simp [h]
theorem trim_all (l cs : List UInt8) : Lib.trimS l cs = [] ↔ ∀ x ∈ l, cs.contains x = true := by
 unfold Lib.trimS Lib.trimLeftS
 rw [drop_all]
 constructor
 · intro h
   by_cases q : Lib.trimRightS l cs = []
   · unfold Lib.trimRightS at q
     rw [List.reverse_eq_nil_iff, drop_all] at q
     exact fun x hx => q x (List.mem_reverse.2 hx)
   · exfalso
     -- the last one of what is left is none of the set
     unfold Lib.trimRightS at q h
     rw [List.reverse_eq_nil_iff] at q
     cases e : l.reverse.dropWhile (cs.contains ·) with
     | nil => exact q e
     | cons a r =>
       have h1 := h a (by rw [e]; simp)
       have h2 := List.head?_dropWhile_not (cs.contains ·) l.reverse
       rw [e] at h2
       simp at h2
       rw [List.contains_iff_mem] at h1
       exact h2 h1
 · intro h x hx
   refine h x ?_
   unfold Lib.trimRightS at hx
   exact List.mem_reverse.1 ((List.dropWhile_sublist _).subset (List.mem_reverse.1 hx))
theorem trim_digits (s : Str) (hs : s.size ≤ 281474976710656) (w : World) : Calls Tryz.prog 168 #[.string s, .string digitsC] w fun e w' => (∃ u : Str, e = .returned (.string u) ∧ (u.toList.isEmpty) = (List.range s.size).all (fun i => kA3 (bt s i))) ∧ Below w.heap.size w w' := by
 have := Any.strings_Trim_laid Tryz.lays160 (by kernel_rfl) s digitsC w (by omega) (by decide) (ascii_of_all (by decide))
 refine Calls.mono this ?_
 rintro e w' ⟨rfl, hb⟩
 refine ⟨⟨_, rfl, ?_⟩, hb⟩
 rw [Bool.eq_iff_iff, List.isEmpty_iff, ByteArray.toList_eq, List.all_eq_true]
 show Lib.trimS s.data.toList digitsC.data.toList = [] ↔ _
 rw [trim_all]
 constructor
 · intro h i hi
   obtain ⟨c, hc, e⟩ := at_bt s i (List.mem_range.1 hi); rw [e, ← kFX]
   exact h c (List.mem_iff_getElem?.2 ⟨i, hc⟩)
 · intro h x hx
   obtain ⟨i, hi⟩ := List.mem_iff_getElem?.1 hx
   have hlt : i < s.size := by
    rcases Nat.lt_or_ge i s.data.toList.length with q | q
    · exact q
    · rw [List.getElem?_eq_none q] at hi; cases hi
   have := h i (List.mem_range.2 hlt)
   rwa [bt_at s i x hi, ← kFX] at this
theorem elem_cases (s : Str) : kAV s = (decide (1 ≤ s.size ∧ s.size ≤ 30) && (decide (65 ≤ bt s 0 ∧ bt s 0 ≤ 90) && (List.range s.size).all (fun i => i == 0 || kA3 (bt s i)))) := rfl
theorem bt_tail (s : Str) (i : Nat) : bt (tail1 s) i = bt s (i + 1) := by
 unfold bt nb
 rw [tail1_list, List.getD_eq_getElem?_getD, List.getD_eq_getElem?_getD, List.getElem?_map, List.getElem?_map, List.getElem?_drop, Nat.add_comm 1 i]
theorem all_tail (s : Str) (h : 0 < s.size) : (List.range (tail1 s).size).all (fun i => kA3 (bt (tail1 s) i)) = (List.range s.size).all (fun i => i == 0 || kA3 (bt s i)) := by
 rw [Bool.eq_iff_iff, List.all_eq_true, List.all_eq_true, tail1_size]
 constructor
 · intro q i hi
   have hi := List.mem_range.1 hi
   rcases Nat.eq_zero_or_pos i with r | r
   · subst r; rfl
   · have := q (i - 1) (List.mem_range.2 (by omega))
     rw [bt_tail, show i - 1 + 1 = i by omega] at this
     rw [this, Bool.or_true]
 · intro q i hi
   have hi := List.mem_range.1 hi
   have := q (i + 1) (List.mem_range.2 (by omega))
   rw [bt_tail]
   simpa using this
theorem kCP (s : Str) (hs : s.size ≤ 281474976710656) (w : World) : Calls Tryz.prog 127 #[.string s] w fun e w' => e = .returned (.bool (kAV s)) ∧ Below w.heap.size w w' := by
 have HN := hJ (elem_cases s)
 by_cases h0 : s.size = 0
 · have q0 : decide ((s.size : Int) < 1) = true := decide_eq_true (by omega)
   have HF : Hid (kAV s = false) := hJ (by rw [HN.out, decide_eq_false (by omega)]; rfl)
   go_enter func127, ntmps127
   go_wp2_with fail
   go_ret
   exact ⟨by rw [HF.out]; rfl, Below.refl _ _⟩
 have q0 : decide ((s.size : Int) < 1) = false := decide_eq_false (by omega)
 by_cases h30 : 30 < s.size
 · have q1 : decide (30 < (s.size : Int)) = true := decide_eq_true (by omega)
   have HF : Hid (kAV s = false) := hJ (by rw [HN.out, decide_eq_false (by omega)]; rfl)
   go_enter func127, ntmps127
   go_wp2_with fail
   go_ret
   exact ⟨by rw [HF.out]; rfl, Below.refl _ _⟩
 have q1 : decide (30 < (s.size : Int)) = false := decide_eq_false (by omega)
 have hp0 : 0 < s.size := by omega
 have g0 := kFD s 0 hp0; have HA := hJ (all_tail s hp0)
 have HN : Hid (kAV s = (decide (65 ≤ bt s 0 ∧ bt s 0 ≤ 90) && (List.range s.size).all (fun i => i == 0 || kA3 (bt s i)))) := hJ (by rw [HN.out, decide_eq_true (by omega)]; rfl)
 generalize bt s 0 = c at *
 by_cases ha : c < 65
 · have q2 : decide (c < 65) = true := decide_eq_true ha
   have HF : Hid (kAV s = false) := hJ (by rw [HN.out, decide_eq_false (by omega)]; rfl)
   go_enter func127, ntmps127
   go_wp2_with fail
   go_ret
   exact ⟨by rw [HF.out]; rfl, Below.refl _ _⟩
 have q2 : decide (c < 65) = false := decide_eq_false ha
 by_cases hz : 90 < c
 · have q3 : decide (90 < c) = true := decide_eq_true hz
   have HF : Hid (kAV s = false) := hJ (by rw [HN.out, decide_eq_false (by omega)]; rfl)
   go_enter func127, ntmps127
   go_wp2_with fail
   go_ret
   exact ⟨by rw [HF.out]; rfl, Below.refl _ _⟩
 have q3 : decide (90 < c) = false := decide_eq_false hz
 have HF : Hid (kAV s = (List.range s.size).all (fun i => i == 0 || kA3 (bt s i))) := hJ (by rw [HN.out, decide_eq_true (by omega)]; rfl)
 go_enter func127, ntmps127
 go_wp2_with fail
 refine (trim_digits (tail1 s) (by rw [tail1_size]; omega) w).mono ?_
 rintro e w1 ⟨⟨u, rfl, hu⟩, hb⟩
 have HU := hJ hu; clear hu
 go_wp2_with fail
 go_ret
 exact ⟨by rw [HF.out, ← HA.out, ← HU.out]; rfl, hb⟩
theorem kDF (s : Str) (hs : s.size ≤ 281474976710656) (w : World) : Calls Tryz.prog 161 #[.string s] w fun e w' => e = .returned (.bool (kAV s)) ∧ w = w' := by
 have HN := hJ (elem_cases s)
 go_enter func161, ntmps161
 go_wp2_with fail
 go_loopw [3] (fun i wr => ∃ k : Nat, 1 ≤ k ∧ (k ≤ s.size ∨ k = 1) ∧ i = .int .i64 k ∧ Hid (∀ j, j < k → (j == 0 || kA3 (bt s j)) = true) ∧ w = wr) (fun i _ => s.size - (intOf i).toNat)
 case atStart => exact ⟨1, by omega, by omega, rfl, hJ (fun j hj => by rw [show j = 0 by omega]; rfl), rfl⟩
 case round =>
  obtain ⟨k, hk1, hk, rfl, HT, rfl⟩ := hrel
  by_cases hlt : k < s.size
  · have gk := kFD s k hlt
    have HG : Hid (kA3 (bt s k) = true → ∀ j, j < k + 1 → (j == 0 || kA3 (bt s j)) = true) := hJ (fun q j hj => by
     rcases Nat.lt_or_ge j k with r | r
     · exact HT.out j r
     · obtain rfl : j = k := by omega
       rw [q, Bool.or_true])
    have HS : Hid (kA3 (bt s k) = false → kAV s = false) := hJ (fun q => by
     rw [HN.out, kD1 hlt (by rw [q, beq_eq_false_iff_ne.2 (by omega : k ≠ 0)]; rfl)]; simp)
    generalize bt s k = c at *
    by_cases h1 : c < 48
    · have HF := hJ (HS.out (by unfold kA3; exact decide_eq_false (by omega)))
      have r1 : decide (c < 48) = true := decide_eq_true h1
      go_wp2_with fail
      go_ret
      exact ⟨by rw [HF.out]; rfl, rfl⟩
    have r1 : decide (c < 48) = false := decide_eq_false h1
    by_cases h2 : 57 < c
    · have HF := hJ (HS.out (by unfold kA3; exact decide_eq_false (by omega)))
      have r2 : decide (57 < c) = true := decide_eq_true h2
      go_wp2_with fail
      go_ret
      exact ⟨by rw [HF.out]; rfl, rfl⟩
    have r2 : decide (57 < c) = false := decide_eq_false h2
    have HGo := hJ (HG.out (by unfold kA3; exact decide_eq_true (by omega)))
    go_wp2_with fail
    go_roundw
    case rel => exact ⟨k + 1, by omega, by omega, by go_num, HGo, trivial⟩
    case measure => simp [intOf]; omega
  · have HN : Hid (kAV s = (decide (1 ≤ s.size ∧ s.size ≤ 30) && decide (65 ≤ bt s 0 ∧ bt s 0 ≤ 90))) := hJ (by
     rw [HN.out, kCH (fun i hi => HT.out i (by omega)), Bool.and_true])
    by_cases h0 : s.size = 0
    · have q0 : decide ((1 : Int) ≤ (s.size : Int)) = false := decide_eq_false (by omega)
      have HF : Hid (kAV s = false) := hJ (by rw [HN.out, decide_eq_false (by omega)]; rfl)
      go_wp2_with fail
      go_ret
      exact ⟨by rw [HF.out]; rfl, rfl⟩
    have q0 : decide ((1 : Int) ≤ (s.size : Int)) = true := decide_eq_true (by omega)
    by_cases h30 : 30 < s.size
    · have q1 : decide ((s.size : Int) ≤ 30) = false := decide_eq_false (by omega)
      have HF : Hid (kAV s = false) := hJ (by rw [HN.out, decide_eq_false (by omega)]; rfl)
      go_wp2_with fail
      go_ret
      exact ⟨by rw [HF.out]; rfl, rfl⟩
    have q1 : decide ((s.size : Int) ≤ 30) = true := decide_eq_true (by omega)
    have g0 := kFD s 0 (by omega)
    have HN : Hid (kAV s = (decide (65 ≤ bt s 0 ∧ bt s 0 ≤ 90))) := hJ (by
     rw [HN.out, decide_eq_true (by omega)]; rfl)
    generalize bt s 0 = c at *
    by_cases ha : c < 65
    · have q2 : decide (65 ≤ c) = false := decide_eq_false (by omega)
      have HF : Hid (kAV s = false) := hJ (by rw [HN.out, decide_eq_false (by omega)])
      go_wp2_with fail
      go_ret
      exact ⟨by rw [HF.out]; rfl, rfl⟩
    have q2 : decide (65 ≤ c) = true := decide_eq_true (by omega)
    by_cases hz : 90 < c
    · have q3 : decide (c ≤ 90) = false := decide_eq_false (by omega)
      have HF : Hid (kAV s = false) := hJ (by rw [HN.out, decide_eq_false (by omega)])
      go_wp2_with fail
      go_ret
      exact ⟨by rw [HF.out, ← q3]; rfl, rfl⟩
    have q3 : decide (c ≤ 90) = true := decide_eq_true (by omega)
    have HF : Hid (kAV s = true) := hJ (by rw [HN.out, decide_eq_true (by omega)])
    go_wp2_with fail
    go_ret
    exact ⟨by rw [HF.out, ← q3]; rfl, rfl⟩
def intC : List UInt8 := [105, 110, 116]
def boolC : List UInt8 := [98, 111, 111, 108]
def kEG (s : Str) : Bool := (s.toList == intC) || ((s.toList == boolC) || kAV s)
theorem ref11_Elem (s : Str) (hs : s.size ≤ 281474976710656) (w : World) : Calls Tryz.prog 114 #[.string s] w fun e w' => e = .returned (.bool (kEG s)) ∧ w = w' := by
 have HN : Hid (kEG s = ((s.toList == [105, 110, 116]) || ((s.toList == [98, 111, 111, 108]) || kAV s))) := hJ rfl
 by_cases h1 : (s.toList == [105, 110, 116]) = true
 · have HF : Hid (kEG s = true) := hJ (by rw [HN.out, h1]; rfl)
   go_enter func114, ntmps114
   go_wp2_with fail
   go_ret
   exact ⟨by rw [HF.out]; rfl, rfl⟩
 have h1 : (s.toList == [105, 110, 116]) = false := by simpa using h1
 by_cases h2 : (s.toList == [98, 111, 111, 108]) = true
 · have HF : Hid (kEG s = true) := hJ (by rw [HN.out, h1, h2]; rfl)
   go_enter func114, ntmps114
   go_wp2_with fail
   go_ret
   exact ⟨by rw [HF.out]; rfl, rfl⟩
 have h2 : (s.toList == [98, 111, 111, 108]) = false := by simpa using h2
 have HF : Hid (kEG s = kAV s) := hJ (by rw [HN.out, h1, h2]; rfl)
 go_enter func114, ntmps114
 go_wp2_with fail
 refine (kDF s hs _).mono ?_
 rintro e _ ⟨rfl, rfl⟩
 go_wp2_with fail
 go_ret
 exact ⟨by rw [HF.out]; rfl, rfl⟩
end Go.Proofs.YtjongcdlginjlaaGreatDoor
