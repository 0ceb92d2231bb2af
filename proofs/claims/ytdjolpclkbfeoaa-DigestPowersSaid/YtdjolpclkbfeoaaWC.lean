/- What the proofs of the laws share: how an argument's reading becomes a list of bytes; the end of a proof. -/
import Derived.Test.YtdjolpclkbfeoaaWB
import Derived.OpenShut
import Derived.Deep.DeepAppendRoom
namespace Go.Proofs.Ytdjolpclkbfeoaa
set_option linter.unusedVariables false
open Go.RowKit

theorem own : ownKnob Try.prog.godebug = none := by kernel_rfl
theorem laidOut : laidOutB Try.prog = true := by kernel_rfl
/-- What a walk is told of a slice of integers that came in. -/
def IsRow (k : IntKind) (w : World) (a : Option Addr) (len cap : Nat) (zs : List Int) : Prop :=
  (a = none ∧ len = 0 ∧ cap = 0 ∧ zs = []) ∨
  ∃ x, a = some x ∧ len ≤ cap ∧ cap ≤ maxLen ∧ zs.length = cap ∧ (∀ i, i < zs.length → w.cell? (x.add i) = some (.int k (zs.getD i 0))) ∧ ∀ n ∈ zs, (Lit.int k n).wf = true
theorem IsRow.rd {w : World} {a : Option Addr} {len cap : Nat} {zs : List Int} (h : IsRow .u8 w a len cap zs) : Rd w a len (zs.take len) ∧ (a = none → cap = 0) ∧ len ≤ cap ∧ len ≤ maxLen := by
  rcases h with ⟨rfl, rfl, rfl, rfl⟩ | ⟨x, rfl, hl, hm, hz, hc, hw⟩
  · exact ⟨Rd.nil w none, fun _ => rfl, Nat.le_refl _, Nat.zero_le _⟩
  · refine ⟨⟨by rw [List.length_take]; omega, fun n hn => bounds_u8 (hw n (List.mem_of_mem_take hn)), fun i hi => ?_⟩, (by intro h; cases h), hl, Nat.le_trans hl hm⟩
    have h0 := hc i (by omega)
    have hx := World.cell?_spot (hc 0 (by omega))
    obtain ⟨b, off, sp⟩ := x
    have hs : sp = none := by simpa [Addr.add] using hx
    subst hs
    rw [add_mk] at h0
    refine ⟨b, off, rfl, ?_⟩
    rw [h0, List.getD_eq_getElem?_getD, List.getD_eq_getElem?_getD, List.getElem?_take, if_pos hi]
theorem Rd.form {w : World} {a : Option Addr} {len : Nat} {l : List Int} (h : Rd w a len l) (h0 : 0 < len) : ∃ b off, a = some ⟨b, off, none⟩ :=
  let ⟨b, off, e, _⟩ := h.2.2 0 h0; ⟨b, off, e⟩
/-- Open, of the program and of the reference, at any slice. -/
theorem Open_any (a : Option Addr) (len cap : Nat) (l : List Int) (w : World) (hr : Rd w a len l) (hlen : len < 1048576) (hcap : len ≤ cap) :
    Calls Try.prog 21 #[.slice a len cap] w fun e w' => ∃ v, e = .returned (.tuple #[v, .int .i64 (openE l)]) ∧ Own w' w.heap.size v (openV l) ∧ Below w.heap.size w w' := by
  by_cases h : len < 8
  · refine (open_short a len cap l w hr h).mono fun e w' ⟨he, hb⟩ => ?_
    have h4 : openE l = 4 := if_pos (by rw [hr.1]; exact h)
    refine ⟨.slice none 0 0, by rw [h4]; exact he, ?_, hb⟩
    unfold openV
    rw [h4, if_neg (by decide)]
    exact ⟨rfl, .inl ⟨rfl, rfl⟩⟩
  · obtain ⟨b, off, rfl⟩ := hr.form (by omega)
    exact open_long b off len cap l w hr hlen (by omega) hcap
theorem rOpen_any (a : Option Addr) (len cap : Nat) (l : List Int) (w : World) (hr : Rd w a len l) (hlen : len < 1048576) (hcap : len ≤ cap) :
    Calls Try.prog 25 #[.slice a len cap] w fun e w' => ∃ v, e = .returned (.tuple #[v, .int .i64 (openE l)]) ∧ Own w' w.heap.size v (openV l) ∧ Below w.heap.size w w' := by
  by_cases h : len < 8
  · refine (rOpen_short a len cap l w hr h).mono fun e w' ⟨he, hb⟩ => ?_
    have h4 : openE l = 4 := if_pos (by rw [hr.1]; exact h)
    refine ⟨.slice none 0 0, by rw [h4]; exact he, ?_, hb⟩
    unfold openV
    rw [h4, if_neg (by decide)]
    exact ⟨rfl, .inl ⟨rfl, rfl⟩⟩
  · obtain ⟨b, off, rfl⟩ := hr.form (by omega)
    exact rOpen_long b off len cap l w hr hlen (by omega) hcap
theorem printV_byte (d : Int) : ∀ x ∈ printV d, 0 ≤ x ∧ x ≤ 255 := by
  unfold printV
  split
  · exact hexL_byte d 16
  · simp
end Go.Proofs.Ytdjolpclkbfeoaa
