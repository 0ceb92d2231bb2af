/- The claim's texts, part 11: contracts of the functions that the statement reaches, and what they say of the data. -/
import Derived.Test.YtjongcdlginjlaaGreatDoorPk10
set_option maxRecDepth 100000
set_option linter.all false
namespace Go.Proofs.YtjongcdlginjlaaGreatDoor
open Go.RowKit
theorem put5 {S : Blk} {W0 w1 : World} {g B : Nat} {T : TypeId} {z0 z1 z2 z3 z4 : Value} (v0 v1 v2 v3 v4 : Value) {ds : List Value} {x : Sch} (hb : Bx W0 g T [z0, z1, z2, z3, z4]) (hr : RSch.rd S W0 ds x) (hS : ∀ k, S k → k < W0.heap.size → k ≠ g) (hB : Below B w1 W0) (hg : B ≤ g) :
    Hid (Bx (((((W0.setCell ⟨g, 0, none⟩ v0).setCell ⟨g, 1, none⟩ v1).setCell ⟨g, 2, none⟩ v2).setCell ⟨g, 3, none⟩ v3).setCell ⟨g, 4, none⟩ v4) g T [v0, v1, v2, v3, v4]) ∧ Hid (B ≤ g) ∧
    Hid (RSch.rd (fun k => S k ∧ k ≠ g) (((((W0.setCell ⟨g, 0, none⟩ v0).setCell ⟨g, 1, none⟩ v1).setCell ⟨g, 2, none⟩ v2).setCell ⟨g, 3, none⟩ v3).setCell ⟨g, 4, none⟩ v4) ds x) ∧
    Hid (Below B w1 (((((W0.setCell ⟨g, 0, none⟩ v0).setCell ⟨g, 1, none⟩ v1).setCell ⟨g, 2, none⟩ v2).setCell ⟨g, 3, none⟩ v3).setCell ⟨g, 4, none⟩ v4)) :=
  ⟨Lib.hid (((((hb.set 0 v0).set 1 v1).set 2 v2).set 3 v3).set 4 v4), Lib.hid hg,
   Lib.hid (RSch.frame (RSch.mono hr (fun k hk hlt => ⟨hk, hS k hk hlt⟩)) (fun k hk _ => (heap_set_ne (fun e => hk.2 e.symm)).trans ((heap_set_ne (fun e => hk.2 e.symm)).trans ((heap_set_ne (fun e => hk.2 e.symm)).trans ((heap_set_ne (fun e => hk.2 e.symm)).trans (heap_set_ne (fun e => hk.2 e.symm))))))),
   Lib.hid (((((hB.setCell hg _).setCell hg _).setCell hg _).setCell hg _).setCell hg _)⟩
set_option maxHeartbeats 8000000 in
theorem ref12_Canonical {S : Blk} {s : Sch} {cs : List Value} {w : World} (h : RSch.rd S w cs s) (hz : szS s) (hpl : s.params.length ≤ 1000000) (hwl : validSch s = true → s.wh.length ≤ 100) :
    Calls Tryz.prog 9 #[.agg cs.toArray] w fun e w' => (∃ ds, e = .returned (.tuple #[.agg ds.toArray, .int .i64 (canErr s)]) ∧ RSch.rd (fun q => w.heap.size ≤ q) w' ds (can s)) ∧ Below w.heap.size w w' := by
  have HV : Hid (∀ W, Below w.heap.size w W → Calls Tryz.prog 29 #[.agg cs.toArray] W fun e w' => e = .returned (.bool (validSch s)) ∧ Below W.heap.size W w') :=
    Lib.hid (fun W hW => ref12_ValidScheme (RSch.below h hW) hz hpl)
  have HSc := Lib.hid (fun (W : World) (hW : Below w.heap.size w W) => RSch.below h hW)
  cases hv : validSch s with
  | false =>
    rw [hv] at HV; have HBd := Lib.hid (can_no hv); obtain ⟨p, t, q, rfl, ⟨ap, cp, rfl, _⟩, ⟨at_, ct, rfl, _⟩, ⟨aq, cq, rfl, _⟩⟩ := h; clear hv
    have B0 : Hid (Below w.heap.size w ((w.alloc (.cells #[.slice ap s.params.length cp, .string s.result.elem, .string s.result.shape.row, .slice at_ s.result.shape.dims.length ct, .slice aq s.wh.length cq] 41)).alloc (.cells #[.slice none 0 0, .string ⟨#[]⟩, .string ⟨#[]⟩, .slice none 0 0, .slice none 0 0] 41))) := Lib.hid (((Below.refl _ _).alloc (by simp <;> omega) _).alloc (by simp <;> omega) _)
    have bka : Bx ((w.alloc (.cells #[.slice ap s.params.length cp, .string s.result.elem, .string s.result.shape.row, .slice at_ s.result.shape.dims.length ct, .slice aq s.wh.length cq] 41)).alloc (.cells #[.slice none 0 0, .string ⟨#[]⟩, .string ⟨#[]⟩, .slice none 0 0, .slice none 0 0] 41)) (w.heap.size) 41 [.slice ap s.params.length cp, .string s.result.elem, .string s.result.shape.row, .slice at_ s.result.shape.dims.length ct, .slice aq s.wh.length cq] := by have h := ((Bx.fresh w 41 [.slice ap s.params.length cp, .string s.result.elem, .string s.result.shape.row, .slice at_ s.result.shape.dims.length ct, .slice aq s.wh.length cq]).alloc (.cells #[.slice none 0 0, .string ⟨#[]⟩, .string ⟨#[]⟩, .slice none 0 0, .slice none 0 0] 41)); simpa using h
    have xa0 : ((w.alloc (.cells #[.slice ap s.params.length cp, .string s.result.elem, .string s.result.shape.row, .slice at_ s.result.shape.dims.length ct, .slice aq s.wh.length cq] 41)).alloc (.cells #[.slice none 0 0, .string ⟨#[]⟩, .string ⟨#[]⟩, .slice none 0 0, .slice none 0 0] 41)).cell? ⟨w.heap.size, 0, none⟩ = some (.slice ap s.params.length cp) := bka.cell 0 _ rfl
    have xa1 : ((w.alloc (.cells #[.slice ap s.params.length cp, .string s.result.elem, .string s.result.shape.row, .slice at_ s.result.shape.dims.length ct, .slice aq s.wh.length cq] 41)).alloc (.cells #[.slice none 0 0, .string ⟨#[]⟩, .string ⟨#[]⟩, .slice none 0 0, .slice none 0 0] 41)).cell? ⟨w.heap.size, 1, none⟩ = some (.string s.result.elem) := bka.cell 1 _ rfl
    have xa2 : ((w.alloc (.cells #[.slice ap s.params.length cp, .string s.result.elem, .string s.result.shape.row, .slice at_ s.result.shape.dims.length ct, .slice aq s.wh.length cq] 41)).alloc (.cells #[.slice none 0 0, .string ⟨#[]⟩, .string ⟨#[]⟩, .slice none 0 0, .slice none 0 0] 41)).cell? ⟨w.heap.size, 2, none⟩ = some (.string s.result.shape.row) := bka.cell 2 _ rfl
    have xa3 : ((w.alloc (.cells #[.slice ap s.params.length cp, .string s.result.elem, .string s.result.shape.row, .slice at_ s.result.shape.dims.length ct, .slice aq s.wh.length cq] 41)).alloc (.cells #[.slice none 0 0, .string ⟨#[]⟩, .string ⟨#[]⟩, .slice none 0 0, .slice none 0 0] 41)).cell? ⟨w.heap.size, 3, none⟩ = some (.slice at_ s.result.shape.dims.length ct) := bka.cell 3 _ rfl
    have xa4 : ((w.alloc (.cells #[.slice ap s.params.length cp, .string s.result.elem, .string s.result.shape.row, .slice at_ s.result.shape.dims.length ct, .slice aq s.wh.length cq] 41)).alloc (.cells #[.slice none 0 0, .string ⟨#[]⟩, .string ⟨#[]⟩, .slice none 0 0, .slice none 0 0] 41)).cell? ⟨w.heap.size, 4, none⟩ = some (.slice aq s.wh.length cq) := bka.cell 4 _ rfl
    have bkb : Bx ((w.alloc (.cells #[.slice ap s.params.length cp, .string s.result.elem, .string s.result.shape.row, .slice at_ s.result.shape.dims.length ct, .slice aq s.wh.length cq] 41)).alloc (.cells #[.slice none 0 0, .string ⟨#[]⟩, .string ⟨#[]⟩, .slice none 0 0, .slice none 0 0] 41)) (w.heap.size + 1) 41 [.slice none 0 0, .string ⟨#[]⟩, .string ⟨#[]⟩, .slice none 0 0, .slice none 0 0] := by have h := (Bx.fresh (w.alloc (.cells #[.slice ap s.params.length cp, .string s.result.elem, .string s.result.shape.row, .slice at_ s.result.shape.dims.length ct, .slice aq s.wh.length cq] 41)) 41 [.slice none 0 0, .string ⟨#[]⟩, .string ⟨#[]⟩, .slice none 0 0, .slice none 0 0]); simpa using h
    have xb0 : ((w.alloc (.cells #[.slice ap s.params.length cp, .string s.result.elem, .string s.result.shape.row, .slice at_ s.result.shape.dims.length ct, .slice aq s.wh.length cq] 41)).alloc (.cells #[.slice none 0 0, .string ⟨#[]⟩, .string ⟨#[]⟩, .slice none 0 0, .slice none 0 0] 41)).cell? ⟨w.heap.size + 1, 0, none⟩ = some (.slice none 0 0) := bkb.cell 0 _ rfl
    have xb1 : ((w.alloc (.cells #[.slice ap s.params.length cp, .string s.result.elem, .string s.result.shape.row, .slice at_ s.result.shape.dims.length ct, .slice aq s.wh.length cq] 41)).alloc (.cells #[.slice none 0 0, .string ⟨#[]⟩, .string ⟨#[]⟩, .slice none 0 0, .slice none 0 0] 41)).cell? ⟨w.heap.size + 1, 1, none⟩ = some (.string ⟨#[]⟩) := bkb.cell 1 _ rfl
    have xb2 : ((w.alloc (.cells #[.slice ap s.params.length cp, .string s.result.elem, .string s.result.shape.row, .slice at_ s.result.shape.dims.length ct, .slice aq s.wh.length cq] 41)).alloc (.cells #[.slice none 0 0, .string ⟨#[]⟩, .string ⟨#[]⟩, .slice none 0 0, .slice none 0 0] 41)).cell? ⟨w.heap.size + 1, 2, none⟩ = some (.string ⟨#[]⟩) := bkb.cell 2 _ rfl
    have xb3 : ((w.alloc (.cells #[.slice ap s.params.length cp, .string s.result.elem, .string s.result.shape.row, .slice at_ s.result.shape.dims.length ct, .slice aq s.wh.length cq] 41)).alloc (.cells #[.slice none 0 0, .string ⟨#[]⟩, .string ⟨#[]⟩, .slice none 0 0, .slice none 0 0] 41)).cell? ⟨w.heap.size + 1, 3, none⟩ = some (.slice none 0 0) := bkb.cell 3 _ rfl
    have xb4 : ((w.alloc (.cells #[.slice ap s.params.length cp, .string s.result.elem, .string s.result.shape.row, .slice at_ s.result.shape.dims.length ct, .slice aq s.wh.length cq] 41)).alloc (.cells #[.slice none 0 0, .string ⟨#[]⟩, .string ⟨#[]⟩, .slice none 0 0, .slice none 0 0] 41)).cell? ⟨w.heap.size + 1, 4, none⟩ = some (.slice none 0 0) := bkb.cell 4 _ rfl
    have hW0 : ((w.alloc (.cells #[.slice ap s.params.length cp, .string s.result.elem, .string s.result.shape.row, .slice at_ s.result.shape.dims.length ct, .slice aq s.wh.length cq] 41)).alloc (.cells #[.slice none 0 0, .string ⟨#[]⟩, .string ⟨#[]⟩, .slice none 0 0, .slice none 0 0] 41)).heap.size = w.heap.size + 2 := by simp
    have HR0 := Lib.hid bkb; clear bka bkb
    go_enter Tryz.func9, Tryz.ntmps9
    go_wp2_with fail
    refine (HV.out _ B0.out).mono ?_
    rintro e w1 ⟨rfl, hb1⟩
    have HRw := Lib.hid (HR0.out.below hb1 HR0.out.lt)
    have HWw : Hid (Below w.heap.size w w1) := Lib.hid (B0.out.trans (hb1.mono B0.out.size))
    clear xa0 xa1 xa2 xa3 xa4 xb0 xb1 xb2 xb3 xb4 hb1 HR0 B0 HV; have v0 := HRw.out.cell 0 _ rfl; have v1 := HRw.out.cell 1 _ rfl; have v2 := HRw.out.cell 2 _ rfl; have v3 := HRw.out.cell 3 _ rfl; have v4 := HRw.out.cell 4 _ rfl; have u0 := HRw.out.fz 0; have u1 := HRw.out.fz 1; have u2 := HRw.out.fz 2; have u3 := HRw.out.fz 3; have u4 := HRw.out.fz 4; have hlr := HRw.out.lt; have HX60 := Lib.hid (((((HRw.out.set 0 (.slice none 0 0)).set 1 (.string ⟨#[]⟩)).set 2 (.string ⟨#[]⟩)).set 3 (.slice none 0 0)).set 4 (.slice none 0 0)); have s0 := HX60.out.cell 0 _ rfl; have s1 := HX60.out.cell 1 _ rfl; have s2 := HX60.out.cell 2 _ rfl; have s3 := HX60.out.cell 3 _ rfl; have s4 := HX60.out.cell 4 _ rfl
    go_wp2_with fail
    refine bodyPost_ret (v := .tuple #[.agg #[.slice none 0 0, .string ⟨#[]⟩, .string ⟨#[]⟩, .slice none 0 0, .slice none 0 0], .int .i64 1]) (by simp [results, Tryz.results9, go_sem, s0, s1, s2, s3, s4, hlr]) rfl ?_
    refine ⟨⟨[.slice none 0 0, .string ⟨#[]⟩, .string ⟨#[]⟩, .slice none 0 0, .slice none 0 0], by rw [HBd.out.1], by rw [HBd.out.2]; exact (OwnSch.no _ _).rd⟩, ?_⟩
    repeat (first | exact HWw.out | refine Below.setCell ?_ (by show _ ≤ w.heap.size + 1; omega) _)
  | true =>
    rw [hv] at HV
    have HCV := Lib.hid (fun (W : World) (hW : Below w.heap.size w W) => ref12_Renaming (HSc.out W hW) hv)
    have HCS := Lib.hid (fun (W : World) (hW : Below w.heap.size w W) (T : Blk) (a : Option Addr) (nb cb : Nat) (hbs : Sl RBnd T W a nb cb (ren (varsSch s))) => ref12_SubstScheme (HSc.out W hW) hv (ren (varsSch s)) a nb cb hbs (canon_binds hv) (ren_plain (varsSch_inv hv)))
    have HBad := Lib.hid (fun q => can_bad hv q)
    have HGood := Lib.hid (fun q => can_good hv q)
    have HWL : Hid (s.wh.length ≤ 100) := Lib.hid (hwl hv)
    obtain ⟨p, t, q, rfl, ⟨ap, cp, rfl, _⟩, ⟨at_, ct, rfl, _⟩, ⟨aq, cq, rfl, _⟩⟩ := h; clear hv hwl HSc
    generalize varsSch s = L at *
    have B0 : Hid (Below w.heap.size w ((w.alloc (.cells #[.slice ap s.params.length cp, .string s.result.elem, .string s.result.shape.row, .slice at_ s.result.shape.dims.length ct, .slice aq s.wh.length cq] 41)).alloc (.cells #[.slice none 0 0, .string ⟨#[]⟩, .string ⟨#[]⟩, .slice none 0 0, .slice none 0 0] 41))) := Lib.hid (((Below.refl _ _).alloc (by simp <;> omega) _).alloc (by simp <;> omega) _)
    have bka : Bx ((w.alloc (.cells #[.slice ap s.params.length cp, .string s.result.elem, .string s.result.shape.row, .slice at_ s.result.shape.dims.length ct, .slice aq s.wh.length cq] 41)).alloc (.cells #[.slice none 0 0, .string ⟨#[]⟩, .string ⟨#[]⟩, .slice none 0 0, .slice none 0 0] 41)) (w.heap.size) 41 [.slice ap s.params.length cp, .string s.result.elem, .string s.result.shape.row, .slice at_ s.result.shape.dims.length ct, .slice aq s.wh.length cq] := by have h := ((Bx.fresh w 41 [.slice ap s.params.length cp, .string s.result.elem, .string s.result.shape.row, .slice at_ s.result.shape.dims.length ct, .slice aq s.wh.length cq]).alloc (.cells #[.slice none 0 0, .string ⟨#[]⟩, .string ⟨#[]⟩, .slice none 0 0, .slice none 0 0] 41)); simpa using h
    have xa0 : ((w.alloc (.cells #[.slice ap s.params.length cp, .string s.result.elem, .string s.result.shape.row, .slice at_ s.result.shape.dims.length ct, .slice aq s.wh.length cq] 41)).alloc (.cells #[.slice none 0 0, .string ⟨#[]⟩, .string ⟨#[]⟩, .slice none 0 0, .slice none 0 0] 41)).cell? ⟨w.heap.size, 0, none⟩ = some (.slice ap s.params.length cp) := bka.cell 0 _ rfl
    have xa1 : ((w.alloc (.cells #[.slice ap s.params.length cp, .string s.result.elem, .string s.result.shape.row, .slice at_ s.result.shape.dims.length ct, .slice aq s.wh.length cq] 41)).alloc (.cells #[.slice none 0 0, .string ⟨#[]⟩, .string ⟨#[]⟩, .slice none 0 0, .slice none 0 0] 41)).cell? ⟨w.heap.size, 1, none⟩ = some (.string s.result.elem) := bka.cell 1 _ rfl
    have xa2 : ((w.alloc (.cells #[.slice ap s.params.length cp, .string s.result.elem, .string s.result.shape.row, .slice at_ s.result.shape.dims.length ct, .slice aq s.wh.length cq] 41)).alloc (.cells #[.slice none 0 0, .string ⟨#[]⟩, .string ⟨#[]⟩, .slice none 0 0, .slice none 0 0] 41)).cell? ⟨w.heap.size, 2, none⟩ = some (.string s.result.shape.row) := bka.cell 2 _ rfl
    have xa3 : ((w.alloc (.cells #[.slice ap s.params.length cp, .string s.result.elem, .string s.result.shape.row, .slice at_ s.result.shape.dims.length ct, .slice aq s.wh.length cq] 41)).alloc (.cells #[.slice none 0 0, .string ⟨#[]⟩, .string ⟨#[]⟩, .slice none 0 0, .slice none 0 0] 41)).cell? ⟨w.heap.size, 3, none⟩ = some (.slice at_ s.result.shape.dims.length ct) := bka.cell 3 _ rfl
    have xa4 : ((w.alloc (.cells #[.slice ap s.params.length cp, .string s.result.elem, .string s.result.shape.row, .slice at_ s.result.shape.dims.length ct, .slice aq s.wh.length cq] 41)).alloc (.cells #[.slice none 0 0, .string ⟨#[]⟩, .string ⟨#[]⟩, .slice none 0 0, .slice none 0 0] 41)).cell? ⟨w.heap.size, 4, none⟩ = some (.slice aq s.wh.length cq) := bka.cell 4 _ rfl
    have bkb : Bx ((w.alloc (.cells #[.slice ap s.params.length cp, .string s.result.elem, .string s.result.shape.row, .slice at_ s.result.shape.dims.length ct, .slice aq s.wh.length cq] 41)).alloc (.cells #[.slice none 0 0, .string ⟨#[]⟩, .string ⟨#[]⟩, .slice none 0 0, .slice none 0 0] 41)) (w.heap.size + 1) 41 [.slice none 0 0, .string ⟨#[]⟩, .string ⟨#[]⟩, .slice none 0 0, .slice none 0 0] := by have h := (Bx.fresh (w.alloc (.cells #[.slice ap s.params.length cp, .string s.result.elem, .string s.result.shape.row, .slice at_ s.result.shape.dims.length ct, .slice aq s.wh.length cq] 41)) 41 [.slice none 0 0, .string ⟨#[]⟩, .string ⟨#[]⟩, .slice none 0 0, .slice none 0 0]); simpa using h
    have xb0 : ((w.alloc (.cells #[.slice ap s.params.length cp, .string s.result.elem, .string s.result.shape.row, .slice at_ s.result.shape.dims.length ct, .slice aq s.wh.length cq] 41)).alloc (.cells #[.slice none 0 0, .string ⟨#[]⟩, .string ⟨#[]⟩, .slice none 0 0, .slice none 0 0] 41)).cell? ⟨w.heap.size + 1, 0, none⟩ = some (.slice none 0 0) := bkb.cell 0 _ rfl
    have xb1 : ((w.alloc (.cells #[.slice ap s.params.length cp, .string s.result.elem, .string s.result.shape.row, .slice at_ s.result.shape.dims.length ct, .slice aq s.wh.length cq] 41)).alloc (.cells #[.slice none 0 0, .string ⟨#[]⟩, .string ⟨#[]⟩, .slice none 0 0, .slice none 0 0] 41)).cell? ⟨w.heap.size + 1, 1, none⟩ = some (.string ⟨#[]⟩) := bkb.cell 1 _ rfl
    have xb2 : ((w.alloc (.cells #[.slice ap s.params.length cp, .string s.result.elem, .string s.result.shape.row, .slice at_ s.result.shape.dims.length ct, .slice aq s.wh.length cq] 41)).alloc (.cells #[.slice none 0 0, .string ⟨#[]⟩, .string ⟨#[]⟩, .slice none 0 0, .slice none 0 0] 41)).cell? ⟨w.heap.size + 1, 2, none⟩ = some (.string ⟨#[]⟩) := bkb.cell 2 _ rfl
    have xb3 : ((w.alloc (.cells #[.slice ap s.params.length cp, .string s.result.elem, .string s.result.shape.row, .slice at_ s.result.shape.dims.length ct, .slice aq s.wh.length cq] 41)).alloc (.cells #[.slice none 0 0, .string ⟨#[]⟩, .string ⟨#[]⟩, .slice none 0 0, .slice none 0 0] 41)).cell? ⟨w.heap.size + 1, 3, none⟩ = some (.slice none 0 0) := bkb.cell 3 _ rfl
    have xb4 : ((w.alloc (.cells #[.slice ap s.params.length cp, .string s.result.elem, .string s.result.shape.row, .slice at_ s.result.shape.dims.length ct, .slice aq s.wh.length cq] 41)).alloc (.cells #[.slice none 0 0, .string ⟨#[]⟩, .string ⟨#[]⟩, .slice none 0 0, .slice none 0 0] 41)).cell? ⟨w.heap.size + 1, 4, none⟩ = some (.slice none 0 0) := bkb.cell 4 _ rfl
    have hW0 : ((w.alloc (.cells #[.slice ap s.params.length cp, .string s.result.elem, .string s.result.shape.row, .slice at_ s.result.shape.dims.length ct, .slice aq s.wh.length cq] 41)).alloc (.cells #[.slice none 0 0, .string ⟨#[]⟩, .string ⟨#[]⟩, .slice none 0 0, .slice none 0 0] 41)).heap.size = w.heap.size + 2 := by simp
    have HA0 := Lib.hid bka; have HR0 := Lib.hid bkb; clear bka bkb
    go_enter Tryz.func9, Tryz.ntmps9
    go_wp2_with fail
    refine (HV.out _ B0.out).mono ?_
    rintro e w1 ⟨rfl, hb1⟩
    have HA1 := Lib.hid (HA0.out.below hb1 HA0.out.lt); have HR1 := Lib.hid (HR0.out.below hb1 HR0.out.lt)
    have HW1 : Hid (Below w.heap.size w w1) := Lib.hid (B0.out.trans (hb1.mono B0.out.size))
    clear xa0 xa1 xa2 xa3 xa4 xb0 xb1 xb2 xb3 xb4 hb1 HR0 HA0 B0 HV
    have hz1 : w.heap.size + 1 < w1.heap.size := HR1.out.lt
    have y0 := HA1.out.cell 0 _ rfl; have y1 := HA1.out.cell 1 _ rfl; have y2 := HA1.out.cell 2 _ rfl; have y3 := HA1.out.cell 3 _ rfl; have y4 := HA1.out.cell 4 _ rfl
    generalize hbb : ren L = b at *
    clear hbb; have HZ1 := Lib.hid hz1; clear hz1
    go_upto_region 3 with fail
    go_cut [4, 5] (fun v4 v5 W => ∃ g ap3 cp3 at3 ct3 aq3 cq3, v4 = .pointer (some ⟨g, 0, none⟩) ∧ v5 = .int .i64 (subSchE b s) ∧ Hid (Bx W g 41 [.slice ap3 (subSch b s).params.length cp3, .string (subSch b s).result.elem, .string (subSch b s).result.shape.row, .slice at3 (subSch b s).result.shape.dims.length ct3, .slice aq3 (subSch b s).wh.length cq3]) ∧ Hid (w1.heap.size ≤ g) ∧ Hid (RSch.rd (fun k => w1.heap.size ≤ k ∧ k ≠ g) W [.slice ap3 (subSch b s).params.length cp3, .string (subSch b s).result.elem, .string (subSch b s).result.shape.row, .slice at3 (subSch b s).result.shape.dims.length ct3, .slice aq3 (subSch b s).wh.length cq3] (subSch b s)) ∧ Hid (Below w1.heap.size w1 W))
    case first =>
      go_region_held3 (fun W => W.cell? ⟨w.heap.size, 0, none⟩ = some (.slice ap s.params.length cp) ∧ W.cell? ⟨w.heap.size, 1, none⟩ = some (.string s.result.elem) ∧ W.cell? ⟨w.heap.size, 2, none⟩ = some (.string s.result.shape.row) ∧ W.cell? ⟨w.heap.size, 3, none⟩ = some (.slice at_ s.result.shape.dims.length ct) ∧ W.cell? ⟨w.heap.size, 4, none⟩ = some (.slice aq s.wh.length cq)) (first | (with_reducible exact ⟨bb0, bb1, bb2, bb3, bb4⟩) | (with_reducible exact ⟨aa0, aa1, aa2, aa3, aa4⟩) | (with_reducible exact ⟨y0, y1, y2, y3, y4⟩) | go_keep) (first
      | (go_at_call 31
         refine (HCV.out w1.drew (HW1.out.trans (Below.mono (B := w1.heap.size) ((Below.refl _ _).drew) HW1.out.size))).mono ?_
         rintro e w2 ⟨⟨v2, rfl, hown2⟩, hb2⟩
         obtain ⟨a2, c2, rfl, hs2⟩ := hown2.sl
         have hB2 : Below w1.heap.size w1 w2 := Below.trans ((Below.refl _ _).drew) (hb2.mono (by simp))
         have hz2 := hB2.size; have aa0 := cellB y0 _ hB2; have aa1 := cellB y1 _ hB2; have aa2 := cellB y2 _ hB2; have aa3 := cellB y3 _ hB2
         have aa4 := cellB y4 _ hB2)
      | (go_at_call 31
         refine (HCV.out (w1.alloc (.cells #[.slice none 0 0, .string ⟨#[]⟩, .string ⟨#[]⟩, .slice none 0 0, .slice none 0 0] 41)).drew (HW1.out.trans (Below.mono (B := w1.heap.size) (((Below.refl _ _).alloc (Nat.le_refl _) _).drew) HW1.out.size))).mono ?_
         rintro e w2 ⟨⟨v2, rfl, hown2⟩, hb2⟩
         obtain ⟨a2, c2, rfl, hs2⟩ := hown2.sl
         have hB2 : Below w1.heap.size w1 w2 := Below.trans (((Below.refl _ _).alloc (Nat.le_refl _) _).drew) (hb2.mono (by simp))
         have hz2 := hB2.size
         have HP2 : Hid (Bx w2 w1.heap.size 41 [.slice none 0 0, .string ⟨#[]⟩, .string ⟨#[]⟩, .slice none 0 0, .slice none 0 0]) := Lib.hid (Bx.below (Bx.fresh w1 _ _) hb2 (by simp))
         have aa0 := cellB y0 _ hB2; have aa1 := cellB y1 _ hB2; have aa2 := cellB y2 _ hB2; have aa3 := cellB y3 _ hB2
         have aa4 := cellB y4 _ hB2)
      | (go_at_call 31
         refine (HCV.out (w1.drew.alloc (.cells #[.slice none 0 0, .string ⟨#[]⟩, .string ⟨#[]⟩, .slice none 0 0, .slice none 0 0] 41)) (HW1.out.trans (Below.mono (B := w1.heap.size) (((Below.refl _ _).drew).alloc (Nat.le_refl _) _) HW1.out.size))).mono ?_
         rintro e w2 ⟨⟨v2, rfl, hown2⟩, hb2⟩
         obtain ⟨a2, c2, rfl, hs2⟩ := hown2.sl
         have hB2 : Below w1.heap.size w1 w2 := Below.trans (((Below.refl _ _).drew).alloc (Nat.le_refl _) _) (hb2.mono (by simp))
         have hz2 := hB2.size
         have HP2 : Hid (Bx w2 w1.heap.size 41 [.slice none 0 0, .string ⟨#[]⟩, .string ⟨#[]⟩, .slice none 0 0, .slice none 0 0]) := Lib.hid (Bx.below (Bx.fresh w1.drew _ _) hb2 (by simp))
         have aa0 := cellB y0 _ hB2; have aa1 := cellB y1 _ hB2; have aa2 := cellB y2 _ hB2; have aa3 := cellB y3 _ hB2
         have aa4 := cellB y4 _ hB2)
      | (go_at_call 30
         have HP2' := HP2
         refine (HCS.out w2 (HW1.out.trans ((hB2.trans (Below.mono (B := w2.heap.size) (Below.refl _ _) hB2.size)).mono HW1.out.size)) _ _ _ _ (hs2.below (Below.refl _ _))).mono ?_
         rintro e w3 ⟨⟨ds, rfl, hos⟩, hb3⟩
         have hr3 := hos.rd; obtain ⟨base, _, _, _, hb0, rfl, ⟨ap3, cp3, rfl, hp3⟩, ⟨at3, ct3, rfl, ht3⟩, hq3⟩ := hos; obtain ⟨aq3, cq3, rfl, hsq3⟩ := hq3.sl
         have hBs : Below w2.heap.size w2 w3 := Below.trans (Below.refl _ _) (hb3.mono (by simp))
         have hB3 : Below w1.heap.size w1 w3 := hB2.trans (hBs.mono hB2.size)
         have HP3 : Hid (Bx w3 w1.heap.size 41 [.slice none 0 0, .string ⟨#[]⟩, .string ⟨#[]⟩, .slice none 0 0, .slice none 0 0]) := Lib.hid (HP2.out.below hBs HP2.out.lt)
         have hg3 : w1.heap.size < w2.heap.size := HP2.out.lt
         have hl3 := HP3.out.lt; have c0 := HP3.out.cell 0 _ rfl; have f0 := HP3.out.fz 0; have c1 := HP3.out.cell 1 _ rfl; have f1 := HP3.out.fz 1; have c2 := HP3.out.cell 2 _ rfl; have f2 := HP3.out.fz 2; have c3 := HP3.out.cell 3 _ rfl; have f3 := HP3.out.fz 3; have c4 := HP3.out.cell 4 _ rfl; have f4 := HP3.out.fz 4
         have hn1 : ¬ w2.heap.size = w.heap.size := by have := HZ1.out; have := hB2.size; omega
         have hn2 : ¬ w.heap.size = w2.heap.size := fun e => hn1 e.symm
         have hn3 : ¬ w1.heap.size = w.heap.size := by have := HZ1.out; omega
         have hn4 : ¬ w.heap.size = w1.heap.size := fun e => hn3 e.symm
         clear hb0 hp3 ht3 hq3 hsq3; have bb0 := cellB y0 _ hB3; have bb1 := cellB y1 _ hB3; have bb2 := cellB y2 _ hB3; have bb3 := cellB y3 _ hB3
         have bb4 := cellB y4 _ hB3)
      | (go_at_call 30
         refine (HCS.out w2 (HW1.out.trans ((hB2.trans (Below.mono (B := w2.heap.size) (Below.refl _ _) hB2.size)).mono HW1.out.size)) _ _ _ _ (hs2.below (Below.refl _ _))).mono ?_
         rintro e w3 ⟨⟨ds, rfl, hos⟩, hb3⟩
         have hr3 := hos.rd; obtain ⟨base, _, _, _, hb0, rfl, ⟨ap3, cp3, rfl, hp3⟩, ⟨at3, ct3, rfl, ht3⟩, hq3⟩ := hos; obtain ⟨aq3, cq3, rfl, hsq3⟩ := hq3.sl
         have hBs : Below w2.heap.size w2 w3 := Below.trans (Below.refl _ _) (hb3.mono (by simp))
         have hB3 : Below w1.heap.size w1 w3 := hB2.trans (hBs.mono hB2.size)
         have hn1 : ¬ w2.heap.size = w.heap.size := by have := HZ1.out; have := hB2.size; omega
         have hn2 : ¬ w.heap.size = w2.heap.size := fun e => hn1 e.symm
         have hn3 : ¬ w1.heap.size = w.heap.size := by have := HZ1.out; omega
         have hn4 : ¬ w.heap.size = w1.heap.size := fun e => hn3 e.symm
         clear hb0 hp3 ht3 hq3 hsq3; have bb0 := cellB y0 _ hB3; have bb1 := cellB y1 _ hB3; have bb2 := cellB y2 _ hB3; have bb3 := cellB y3 _ hB3
         have bb4 := cellB y4 _ hB3)
      | (go_at_call 30
         refine (HCS.out (w2.alloc (.cells #[.slice none 0 0, .string ⟨#[]⟩, .string ⟨#[]⟩, .slice none 0 0, .slice none 0 0] 41)) (HW1.out.trans ((hB2.trans (Below.mono (B := w2.heap.size) ((Below.refl _ _).alloc (Nat.le_refl _) _) hB2.size)).mono HW1.out.size)) _ _ _ _ (hs2.below ((Below.refl _ _).alloc (Nat.le_refl _) _))).mono ?_
         rintro e w3 ⟨⟨ds, rfl, hos⟩, hb3⟩
         have hr3 := hos.rd; obtain ⟨base, _, _, _, hb0, rfl, ⟨ap3, cp3, rfl, hp3⟩, ⟨at3, ct3, rfl, ht3⟩, hq3⟩ := hos; obtain ⟨aq3, cq3, rfl, hsq3⟩ := hq3.sl
         have hBs : Below w2.heap.size w2 w3 := Below.trans ((Below.refl _ _).alloc (Nat.le_refl _) _) (hb3.mono (by simp))
         have hB3 : Below w1.heap.size w1 w3 := hB2.trans (hBs.mono hB2.size)
         have HP3 : Hid (Bx w3 w2.heap.size 41 [.slice none 0 0, .string ⟨#[]⟩, .string ⟨#[]⟩, .slice none 0 0, .slice none 0 0]) := Lib.hid (Bx.below (Bx.fresh w2 _ _) hb3 (by simp))
         have hl3 := HP3.out.lt; have c0 := HP3.out.cell 0 _ rfl; have f0 := HP3.out.fz 0; have c1 := HP3.out.cell 1 _ rfl; have f1 := HP3.out.fz 1; have c2 := HP3.out.cell 2 _ rfl; have f2 := HP3.out.fz 2; have c3 := HP3.out.cell 3 _ rfl; have f3 := HP3.out.fz 3; have c4 := HP3.out.cell 4 _ rfl; have f4 := HP3.out.fz 4
         have hn1 : ¬ w2.heap.size = w.heap.size := by have := HZ1.out; have := hB2.size; omega
         have hn2 : ¬ w.heap.size = w2.heap.size := fun e => hn1 e.symm
         have hn3 : ¬ w1.heap.size = w.heap.size := by have := HZ1.out; omega
         have hn4 : ¬ w.heap.size = w1.heap.size := fun e => hn3 e.symm
         clear hb0 hp3 ht3 hq3 hsq3; have bb0 := cellB y0 _ hB3; have bb1 := cellB y1 _ hB3; have bb2 := cellB y2 _ hB3; have bb3 := cellB y3 _ hB3
         have bb4 := cellB y4 _ hB3))
      all_goals
        have HQ3 := Lib.hid hr3; have HBB := Lib.hid hB3; have HB2' := Lib.hid hB2; clear hr3 hB3 hB2 hb2 hb3 y0 y1 y2 y3 y4 aa0 aa1 aa2 aa3 aa4 bb0 bb1 bb2 bb3 bb4 hs2 hown2 hn1 hn2 hn3 hn4 hBs
        go_wp2_with fail
        go_meet
        have hz1 := HZ1.out; have hz2 := HB2'.out.size; have hz3 := HBB.out.size
      · refine ⟨w3.heap.size, ap3, cp3, at3, ct3, aq3, cq3, rfl, rfl, Lib.hid (Bx.fresh w3 _ _), Lib.hid hz3, Lib.hid ?_, Lib.hid (HBB.out.alloc hz3 _)⟩
        exact RSch.below (RSch.mono HQ3.out (fun k hk hlt => ⟨Nat.le_trans hz2 hk, Nat.ne_of_lt hlt⟩)) ((Below.refl _ _).alloc (Nat.le_refl _) _)
      · have hq := put5 (B := w1.heap.size) (g := w2.heap.size) (.slice ap3 (subSch b s).params.length cp3) (.string (subSch b s).result.elem) (.string (subSch b s).result.shape.row) (.slice at3 (subSch b s).result.shape.dims.length ct3) (.slice aq3 (subSch b s).wh.length cq3) HP3.out HQ3.out (fun k hk _ => Nat.ne_of_gt (Nat.lt_of_lt_of_le (by simp) hk)) HBB.out hz2
        refine ⟨w2.heap.size, ap3, cp3, at3, ct3, aq3, cq3, rfl, rfl, hq.1, hq.2.1, Lib.hid ?_, hq.2.2.2⟩
        exact RSch.mono hq.2.2.1.out (fun k hk _ => ⟨by have := hk.1; simp at this; omega, hk.2⟩)
      · have hq := put5 (B := w1.heap.size) (g := w1.heap.size) (.slice ap3 (subSch b s).params.length cp3) (.string (subSch b s).result.elem) (.string (subSch b s).result.shape.row) (.slice at3 (subSch b s).result.shape.dims.length ct3) (.slice aq3 (subSch b s).wh.length cq3) HP3.out HQ3.out (fun k hk _ e => by rw [e] at hk; omega) HBB.out (Nat.le_refl _)
        refine ⟨w1.heap.size, ap3, cp3, at3, ct3, aq3, cq3, rfl, rfl, hq.1, hq.2.1, Lib.hid ?_, hq.2.2.2⟩
        exact RSch.mono hq.2.2.1.out (fun k hk _ => ⟨Nat.le_trans hz2 hk.1, hk.2⟩)
    case rest =>
      obtain ⟨g, ap3, cp3, at3, ct3, aq3, cq3, rfl, rfl, HP, HG, HR, HB⟩ := hcut; have HRw := Lib.hid (HR1.out.below HB.out HR1.out.lt)
      have HWw : Hid (Below w.heap.size w wc) := Lib.hid (HW1.out.trans (HB.out.mono HW1.out.size))
      clear y0 y1 y2 y3 y4 HCV HCS
      cases hok : subSchOk b s with
      | false =>
        have HBd := Lib.hid (HBad.out hok); rw [(sch_no hok).2]; clear hok HGood HBad; have v0 := HRw.out.cell 0 _ rfl; have v1 := HRw.out.cell 1 _ rfl; have v2 := HRw.out.cell 2 _ rfl; have v3 := HRw.out.cell 3 _ rfl; have v4 := HRw.out.cell 4 _ rfl; have u0 := HRw.out.fz 0; have u1 := HRw.out.fz 1; have u2 := HRw.out.fz 2; have u3 := HRw.out.fz 3; have u4 := HRw.out.fz 4; have hlr := HRw.out.lt; have HX60 := Lib.hid (((((HRw.out.set 0 (.slice none 0 0)).set 1 (.string ⟨#[]⟩)).set 2 (.string ⟨#[]⟩)).set 3 (.slice none 0 0)).set 4 (.slice none 0 0)); have s0 := HX60.out.cell 0 _ rfl; have s1 := HX60.out.cell 1 _ rfl; have s2 := HX60.out.cell 2 _ rfl; have s3 := HX60.out.cell 3 _ rfl; have s4 := HX60.out.cell 4 _ rfl
        go_wp2_with fail
        refine bodyPost_ret (v := .tuple #[.agg #[.slice none 0 0, .string ⟨#[]⟩, .string ⟨#[]⟩, .slice none 0 0, .slice none 0 0], .int .i64 3]) (by simp [results, Tryz.results9, go_sem, s0, s1, s2, s3, s4, hlr]) rfl ?_
        refine ⟨⟨[.slice none 0 0, .string ⟨#[]⟩, .string ⟨#[]⟩, .slice none 0 0, .slice none 0 0], by rw [HBd.out.1], by rw [HBd.out.2]; exact (OwnSch.no _ _).rd⟩, ?_⟩
        repeat (first | exact HWw.out | refine Below.setCell ?_ (by show _ ≤ w.heap.size + 1; omega) _)
      | true =>
        obtain ⟨hg0, hg1⟩ := HGood.out hok; have HG0 := Lib.hid hg0
        have HE0 : subSchE b s = 0 := by unfold subSchE; rw [hok]; rfl
        have HS1 : subSch b s = subSchR b s := by unfold subSch; rw [hok]; rfl
        rw [HE0]; rw [HS1] at HP HR
        have HSp : Hid (can s = ⟨(subSchR b s).params, (subSchR b s).result, tidy (subSchR b s).wh⟩) := Lib.hid hg1
        have hwl : (subSchR b s).wh.length ≤ 100 := by
          have h1 : (subSchR b s).wh = s.wh.map (subRaw b) := rfl
          rw [h1, List.length_map]; exact HWL.out
        clear hok HGood HBad hg0 hg1 HE0 HS1
        generalize subSchR b s = s' at *
        obtain ⟨_, _, _, e, ⟨_, _, e1, hp3⟩, ⟨_, _, e2, ht3⟩, ⟨_, _, e3, hq3⟩⟩ := HR.out
        simp only [List.cons.injEq, and_true, true_and] at e
        obtain ⟨rfl, rfl, rfl⟩ := e; rw [Value.slice.injEq] at e1 e2 e3; obtain ⟨rfl, -, rfl⟩ := e1; obtain ⟨rfl, -, rfl⟩ := e2; obtain ⟨rfl, -, rfl⟩ := e3; have HPs := Lib.hid hp3; have HTs := Lib.hid ht3; have HTd := Lib.hid (ref12_Tidy s'.wh aq3 _ cq3 wc hq3 hwl); have q4 := HP.out.cell 4 _ rfl; clear hp3 ht3 hq3 HR hwl
        go_wp2_with fail
        refine HTd.out.mono ?_
        rintro e w8 ⟨⟨v1, rfl, hown8⟩, hb8⟩
        obtain ⟨a8, c8, rfl, hs8⟩ := hown8.sl; have HS8 := Lib.hid hs8; have HB8 := Lib.hid hb8; have hlg := HP.out.lt; have HP8 := Lib.hid (HP.out.below hb8 hlg); have HR8 := Lib.hid (HRw.out.below hb8 HRw.out.lt); have hz8 := hb8.size
        have hzg : w.heap.size + 1 < g := Nat.lt_of_lt_of_le HZ1.out HG.out
        clear hown8 hs8 hb8 q4 HTd HP HRw; have r4 := HP8.out.cell 4 _ rfl; have g4 := HP8.out.fz 4; have HP12 := Lib.hid (HP8.out.set 4 (.slice a8 (tidy s'.wh).length c8)); have p0 := HP12.out.cell 0 _ rfl; have p1 := HP12.out.cell 1 _ rfl; have p2 := HP12.out.cell 2 _ rfl; have p3 := HP12.out.cell 3 _ rfl; have p4 := HP12.out.cell 4 _ rfl
        have HRw : Hid (Bx (w8.setCell ⟨g, 4, none⟩ (.slice a8 (tidy s'.wh).length c8)) (w.heap.size + 1) 41 _) := Lib.hid (HR8.out.other (by show g ≠ w.heap.size + 1; omega))
        have v0 := HRw.out.cell 0 _ rfl; have v1 := HRw.out.cell 1 _ rfl; have v2 := HRw.out.cell 2 _ rfl; have v3 := HRw.out.cell 3 _ rfl; have v4 := HRw.out.cell 4 _ rfl; have u0 := HRw.out.fz 0; have u1 := HRw.out.fz 1; have u2 := HRw.out.fz 2; have u3 := HRw.out.fz 3; have u4 := HRw.out.fz 4; have hlr := HRw.out.lt; have HX60 := Lib.hid (((((HRw.out.set 0 (.slice ap3 s'.params.length cp3)).set 1 (.string s'.result.elem)).set 2 (.string s'.result.shape.row)).set 3 (.slice at3 s'.result.shape.dims.length ct3)).set 4 (.slice a8 (tidy s'.wh).length c8)); have s0 := HX60.out.cell 0 _ rfl; have s1 := HX60.out.cell 1 _ rfl; have s2 := HX60.out.cell 2 _ rfl; have s3 := HX60.out.cell 3 _ rfl; have s4 := HX60.out.cell 4 _ rfl
        go_wp2_with fail
        refine bodyPost_ret (v := .tuple #[.agg #[.slice ap3 s'.params.length cp3, .string s'.result.elem, .string s'.result.shape.row, .slice at3 s'.result.shape.dims.length ct3, .slice a8 (tidy s'.wh).length c8], .int .i64 0]) (by simp [results, Tryz.results9, go_sem, s0, s1, s2, s3, s4, hlr]) rfl ?_
        have hF : ∀ q, q ≠ g → q ≠ w.heap.size + 1 → ((((((w8.setCell ⟨g, 4, none⟩ (.slice a8 (tidy s'.wh).length c8)).setCell ⟨w.heap.size + 1, 0, none⟩ (.slice ap3 s'.params.length cp3)).setCell ⟨w.heap.size + 1, 1, none⟩ (.string s'.result.elem)).setCell ⟨w.heap.size + 1, 2, none⟩ (.string s'.result.shape.row)).setCell ⟨w.heap.size + 1, 3, none⟩ (.slice at3 s'.result.shape.dims.length ct3)).setCell ⟨w.heap.size + 1, 4, none⟩ (.slice a8 (tidy s'.wh).length c8)).heap[q]? = w8.heap[q]? := fun q h1 h2 => (heap_set_ne (fun e => h2 e.symm)).trans ((heap_set_ne (fun e => h2 e.symm)).trans ((heap_set_ne (fun e => h2 e.symm)).trans ((heap_set_ne (fun e => h2 e.symm)).trans ((heap_set_ne (fun e => h2 e.symm)).trans (heap_set_ne (fun e => h1 e.symm))))))
        have hz1 := HZ1.out
        have hFp : ∀ q, (w1.heap.size ≤ q ∧ q ≠ g) → q < wc.heap.size → ((((((w8.setCell ⟨g, 4, none⟩ (.slice a8 (tidy s'.wh).length c8)).setCell ⟨w.heap.size + 1, 0, none⟩ (.slice ap3 s'.params.length cp3)).setCell ⟨w.heap.size + 1, 1, none⟩ (.string s'.result.elem)).setCell ⟨w.heap.size + 1, 2, none⟩ (.string s'.result.shape.row)).setCell ⟨w.heap.size + 1, 3, none⟩ (.slice at3 s'.result.shape.dims.length ct3)).setCell ⟨w.heap.size + 1, 4, none⟩ (.slice a8 (tidy s'.wh).length c8)).heap[q]? = wc.heap[q]? := fun q h1 h2 => (hF q h1.2 (by have := h1.1; omega)).trans (HB8.out.block q h2)
        refine ⟨⟨[.slice ap3 s'.params.length cp3, .string s'.result.elem, .string s'.result.shape.row, .slice at3 s'.result.shape.dims.length ct3, .slice a8 (tidy s'.wh).length c8], by rw [HG0.out], ?_⟩, ?_⟩
        · rw [HSp.out]
          refine ⟨_, _, _, rfl, ⟨ap3, cp3, rfl, (HPs.out.frame hFp).mono (fun k hk _ => by have := hk.1; omega)⟩, ⟨at3, ct3, rfl, (HTs.out.frame hFp).mono (fun k hk _ => by have := hk.1; omega)⟩, ⟨a8, c8, rfl, ?_⟩⟩
          refine (HS8.out.frame (fun k hk _ => hF k ?ha ?hb)).mono (fun k hk _ => ?hc)
          case ha => rcases hk with hk | hk; exact hk.1.2; omega
          case hb => rcases hk with hk | hk; have := hk.1.1; omega; omega
          case hc => rcases hk with hk | hk; have := hk.1.1; omega; omega
        · have hB' := HWw.out.trans (HB8.out.mono (B' := w.heap.size) HWw.out.size)
          exact (((((hB'.setCell (by show w.heap.size ≤ g; omega) _).setCell (by show w.heap.size ≤ w.heap.size + 1; omega) _).setCell (by show w.heap.size ≤ w.heap.size + 1; omega) _).setCell (by show w.heap.size ≤ w.heap.size + 1; omega) _).setCell (by show w.heap.size ≤ w.heap.size + 1; omega) _).setCell (by show w.heap.size ≤ w.heap.size + 1; omega) _
end Go.Proofs.YtjongcdlginjlaaGreatDoor
namespace Go.Proofs.YtjongcdlginjlaaGreatDoor
open Go.RowKit
theorem ours_at {L : Nat} {x : Ifc} {a : Option Addr} {n c : Nat} {w : World} (hs : Sl REnt (fun k => k < L) w a n c x.entries) (hn : n ≤ 1000000) :
    Calls Tryz.prog 8 #[.agg #[.string x.module_, .slice a n c]] w fun e w' => (∃ v, e = .returned (.agg #[.string x.module_, v]) ∧ Own REnt 43 (fun k => k < L) w' w.heap.size v x.entries) ∧ Below w.heap.size w w' :=
  (oursIfc hs hn).mono fun e w' ⟨⟨v, he, ho⟩, hb⟩ => ⟨⟨v, he, (ho.mono (fun k hk _ => hk.1)).lower (by omega)⟩, hb⟩
theorem theirs_at {S : Blk} {A : Ifc} {a : Option Addr} {c : Nat} {w : World} (hs : Sl REnt S w a A.entries.length c A.entries) (hn : A.entries.length ≤ 6) :
    Calls Tryz.prog 12 #[.agg #[.string A.module_, .slice a A.entries.length c]] w fun e w' => (∃ a' c', e = .returned (.agg #[.string A.module_, .slice a' A.entries.length c']) ∧ Sl REnt All w' a' A.entries.length c' A.entries) ∧ Below w.heap.size w w' :=
  (theirsIfc hs (by omega)).mono fun e w' ⟨⟨v, he, ho⟩, hb⟩ => by
    obtain ⟨a', c', rfl, hs'⟩ := ho.sl
    exact ⟨⟨a', c', he, hs'.all⟩, hb⟩
theorem says_ev {mod : Str} {l : List Ent} {A : Ifc} {e : Int} (h : Says mod l A e) : e = 0 ∨ (e = 1 ∧ A = noIfc) ∨ (e = 8 ∧ A = noIfc) := by
  rcases h with ⟨_, h0, h⟩ | ⟨_, _, h0, h⟩ | ⟨_, _, h, _⟩
  · exact .inr (.inl ⟨h, h0⟩)
  · exact .inr (.inr ⟨h, h0⟩)
  · exact .inl h
theorem theirs_none (m : Str) (a : Option Addr) (c : Nat) (w : World) :
    Calls Tryz.prog 12 #[.agg #[.string m, .slice a 0 c]] w fun e w' => e = .returned (.agg #[.string m, .slice none 0 0]) ∧ Below w.heap.size w w' := by
  have B0 : Hid (Below w.heap.size w (((w.alloc (.cells #[.string m, .slice a 0 c] 29)).alloc (.cells #[.string ⟨#[]⟩, .slice none 0 0] 24)).alloc (.cells #[.string m, .slice none 0 0] 24))) := Lib.hid ((((Below.refl _ _).alloc (by simp <;> omega) _).alloc (by simp <;> omega) _).alloc (by simp <;> omega) _)
  have bka : Bx (((w.alloc (.cells #[.string m, .slice a 0 c] 29)).alloc (.cells #[.string ⟨#[]⟩, .slice none 0 0] 24)).alloc (.cells #[.string m, .slice none 0 0] 24)) (w.heap.size) 29 [.string m, .slice a 0 c] := by have h := (((Bx.fresh w 29 [.string m, .slice a 0 c]).alloc (.cells #[.string ⟨#[]⟩, .slice none 0 0] 24)).alloc (.cells #[.string m, .slice none 0 0] 24)); simpa using h
  have xa0 : (((w.alloc (.cells #[.string m, .slice a 0 c] 29)).alloc (.cells #[.string ⟨#[]⟩, .slice none 0 0] 24)).alloc (.cells #[.string m, .slice none 0 0] 24)).cell? ⟨w.heap.size, 0, none⟩ = some (.string m) := bka.cell 0 _ rfl
  have xa1 : (((w.alloc (.cells #[.string m, .slice a 0 c] 29)).alloc (.cells #[.string ⟨#[]⟩, .slice none 0 0] 24)).alloc (.cells #[.string m, .slice none 0 0] 24)).cell? ⟨w.heap.size, 1, none⟩ = some (.slice a 0 c) := bka.cell 1 _ rfl
  have bkb : Bx (((w.alloc (.cells #[.string m, .slice a 0 c] 29)).alloc (.cells #[.string ⟨#[]⟩, .slice none 0 0] 24)).alloc (.cells #[.string m, .slice none 0 0] 24)) (w.heap.size + 1) 24 [.string ⟨#[]⟩, .slice none 0 0] := by have h := ((Bx.fresh (w.alloc (.cells #[.string m, .slice a 0 c] 29)) 24 [.string ⟨#[]⟩, .slice none 0 0]).alloc (.cells #[.string m, .slice none 0 0] 24)); simpa using h
  have xb0 : (((w.alloc (.cells #[.string m, .slice a 0 c] 29)).alloc (.cells #[.string ⟨#[]⟩, .slice none 0 0] 24)).alloc (.cells #[.string m, .slice none 0 0] 24)).cell? ⟨w.heap.size + 1, 0, none⟩ = some (.string ⟨#[]⟩) := bkb.cell 0 _ rfl
  have xb1 : (((w.alloc (.cells #[.string m, .slice a 0 c] 29)).alloc (.cells #[.string ⟨#[]⟩, .slice none 0 0] 24)).alloc (.cells #[.string m, .slice none 0 0] 24)).cell? ⟨w.heap.size + 1, 1, none⟩ = some (.slice none 0 0) := bkb.cell 1 _ rfl
  have bkc : Bx (((w.alloc (.cells #[.string m, .slice a 0 c] 29)).alloc (.cells #[.string ⟨#[]⟩, .slice none 0 0] 24)).alloc (.cells #[.string m, .slice none 0 0] 24)) (w.heap.size + 1 + 1) 24 [.string m, .slice none 0 0] := by have h := (Bx.fresh ((w.alloc (.cells #[.string m, .slice a 0 c] 29)).alloc (.cells #[.string ⟨#[]⟩, .slice none 0 0] 24)) 24 [.string m, .slice none 0 0]); simpa using h
  have xc0 : (((w.alloc (.cells #[.string m, .slice a 0 c] 29)).alloc (.cells #[.string ⟨#[]⟩, .slice none 0 0] 24)).alloc (.cells #[.string m, .slice none 0 0] 24)).cell? ⟨w.heap.size + 1 + 1, 0, none⟩ = some (.string m) := bkc.cell 0 _ rfl
  have xc1 : (((w.alloc (.cells #[.string m, .slice a 0 c] 29)).alloc (.cells #[.string ⟨#[]⟩, .slice none 0 0] 24)).alloc (.cells #[.string m, .slice none 0 0] 24)).cell? ⟨w.heap.size + 1 + 1, 1, none⟩ = some (.slice none 0 0) := bkc.cell 1 _ rfl
  have hW0 : (((w.alloc (.cells #[.string m, .slice a 0 c] 29)).alloc (.cells #[.string ⟨#[]⟩, .slice none 0 0] 24)).alloc (.cells #[.string m, .slice none 0 0] 24)).heap.size = w.heap.size + 3 := by simp
  have HA := Lib.hid bka; have HR := Lib.hid bkb; have HX := Lib.hid bkc; clear bka bkb bkc xb0 xb1 xc0 xc1
  go_enter Tryz.func12, Tryz.ntmps12
  go_wp2_with fail
  generalize (((w.alloc (.cells #[.string m, .slice a 0 c] 29)).alloc (.cells #[.string ⟨#[]⟩, .slice none 0 0] 24)).alloc (.cells #[.string m, .slice none 0 0] 24)) = W at *
  go_loopw [4] (fun i wr => i = .int .i64 0 ∧ W = wr) (fun _ _ => 0)
  case atStart => exact ⟨rfl, rfl⟩
  case round =>
    obtain ⟨rfl, rfl⟩ := hrel; have z0 := HX.out.cell 0 _ rfl; have z1 := HX.out.cell 1 _ rfl; have t0 := HR.out.cell 0 _ rfl; have t1 := HR.out.cell 1 _ rfl; have f0 := HR.out.fz 0; have f1 := HR.out.fz 1; have hl1 := HR.out.lt; have HZz := Lib.hid ((HR.out.set 0 (.string m)).set 1 (.slice none 0 0)); have s0 := HZz.out.cell 0 _ rfl; have s1 := HZz.out.cell 1 _ rfl
    go_wp2_with fail
    refine bodyPost_ret (v := .agg #[.string m, .slice none 0 0]) (by simp [results, Tryz.results12, go_sem, s0, s1, hl1]) rfl ?_
    refine ⟨rfl, ?_⟩
    repeat (first | exact B0.out | refine Below.setCell ?_ (by show w.heap.size ≤ w.heap.size + 1; omega) _)
theorem field_ents (m : Str) (a : Option Addr) (n c : Nat) (w : World) : (Instr.field 29 (.agg #[.string m, .slice a n c]) 1).run Tryz.prog w = .ok (.slice a n c) w := by kernel_rfl
set_option maxHeartbeats 8000000 in
theorem law57_Order {x : Ifc} {a : Option Addr} {n c : Nat} {w : World} (hs0 : Sl REnt All w a n c x.entries) (hbig : ∀ e ∈ x.entries, bigE e) (hmz : strB x.module_) (hwz : ∀ e ∈ x.entries, ∀ y ∈ e.scheme.wh, szL y) (E : Env w) :
    Calls Tryz.prog 3 #[.agg #[.string x.module_, .slice a n c]] w fun e w' => e = .returned (.bool true) ∧ Below w.heap.size w w' := by
  have hm := hs0.small; have HL := Lib.hid hs0.len
  have HS := Lib.hid (hs0.mono (S' := fun k => k < w.heap.size) (fun k _ h => h))
  have HE := Lib.hid (fun (W : World) (hW : Below w.heap.size w W) => E.below hW)
  have HBg := Lib.hid hbig; have HMz := Lib.hid hmz; have HWz := Lib.hid hwz; clear hs0 hbig hmz hwz E
  have B0 : Hid (Below w.heap.size w (w.alloc (.cells #[.string x.module_, .slice a n c] 24))) := Lib.hid ((Below.refl _ _).alloc (by simp <;> omega) _)
  have bka : Bx (w.alloc (.cells #[.string x.module_, .slice a n c] 24)) (w.heap.size) 24 [.string x.module_, .slice a n c] := by have h := (Bx.fresh w 24 [.string x.module_, .slice a n c]); simpa using h
  have xa0 : (w.alloc (.cells #[.string x.module_, .slice a n c] 24)).cell? ⟨w.heap.size, 0, none⟩ = some (.string x.module_) := bka.cell 0 _ rfl
  have xa1 : (w.alloc (.cells #[.string x.module_, .slice a n c] 24)).cell? ⟨w.heap.size, 1, none⟩ = some (.slice a n c) := bka.cell 1 _ rfl
  have hW0 : (w.alloc (.cells #[.string x.module_, .slice a n c] 24)).heap.size = w.heap.size + 1 := by simp
  have HX0 := Lib.hid bka; have HAw := Lib.hid (law57_awake _ (HE.out _ B0.out)); clear bka
  go_enter Tryz.func3, Tryz.ntmps3
  go_wp2_with fail
  refine (HAw.out).mono ?_
  rintro e w1 ⟨rfl, hb1⟩
  have HX1 := Lib.hid (HX0.out.below hb1 HX0.out.lt)
  have HW1 : Hid (Below w.heap.size w w1) := Lib.hid (B0.out.trans (hb1.mono B0.out.size))
  clear xa0 xa1 hb1 HX0 HAw B0 hW0; have g0 := HX1.out.cell 0 _ rfl; have g1 := HX1.out.cell 1 _ rfl; have HF := Lib.hid (ref57_Few (i := x) (HS.out.below HW1.out) HBg.out HMz.out)
  cases hfew : fewIfc x with
  | false =>
    rw [hfew] at HF
    go_wp2_with fail
    refine (HF.out).mono ?_
    rintro e w2 ⟨rfl, hb2⟩
    go_wp2_with fail
    go_ret
    exact ⟨rfl, HW1.out.trans (hb2.mono HW1.out.size)⟩
  | true =>
    rw [hfew] at HF; obtain ⟨hfe, hf6, hfm⟩ := few_ifc hfew
    have HFe : Hid (∀ e ∈ x.entries, szS e.scheme ∧ e.scheme.params.length ≤ 13 ∧ (validSch e.scheme = true → e.scheme.wh.length ≤ 8) ∧ e.name.size ≤ 40) := Lib.hid (fun e he => few_ent (hfe e he) (HWz.out e he))
    have hn6 : n ≤ 6 := by rw [← HL.out]; exact hf6
    clear hfe hf6 hfew HBg HMz HWz
    go_wp2_with fail
    refine HF.out.mono ?_
    rintro e w2 ⟨rfl, hb2⟩
    have HX2 := Lib.hid (HX1.out.below hb2 HX1.out.lt)
    have HW2 : Hid (Below w.heap.size w w2) := Lib.hid (HW1.out.trans (hb2.mono HW1.out.size))
    clear g0 g1 hb2 HX1 HW1 HF; have y0 := HX2.out.cell 0 _ rfl; have y1 := HX2.out.cell 1 _ rfl
    have HZ2 : Hid (w.heap.size < w2.heap.size) := Lib.hid HX2.out.lt
    have HCo := Lib.hid (fun (W : World) (hW : Below w2.heap.size w2 W) => ours_at (x := x) (HS.out.below (HW2.out.trans (hW.mono HW2.out.size))) (by omega))
    have HCm := Lib.hid (fun (S : Blk) (W : World) (hW : Below w2.heap.size w2 W) (a3 : Option Addr) (c3 : Nat) (hs : Sl REnt S W a3 x.entries.length c3 x.entries) (hf : Fit W a3) => signature_Make (mod := x.module_) hs hf (by rw [HL.out]; omega) (fun e he => fine_of (HFe.out e he)) (by omega) (HE.out W (HW2.out.trans (hW.mono HW2.out.size))))
    go_upto_region 5 with fail
    go_cut [3, 4] (fun v3 v4 W => ∃ (g : Nat) (A : Ifc) (ev : Int) (a' : Option Addr) (c' : Nat), v3 = .pointer (some ⟨g, 0, none⟩) ∧ v4 = .int .i64 ev ∧ Hid (Bx W g 29 [.string A.module_, .slice a' A.entries.length c']) ∧ Hid (Says x.module_ x.entries A ev) ∧ Hid (Sl REnt All W a' A.entries.length c' A.entries) ∧ Hid (Below w2.heap.size w2 W))
    case first =>
      go_region_held3 (fun W => W.cell? ⟨w.heap.size, 0, none⟩ = some (.string x.module_) ∧ W.cell? ⟨w.heap.size, 1, none⟩ = some (.slice a n c)) (first | (with_reducible exact ⟨bb0, bb1⟩) | (with_reducible exact ⟨aa0, aa1⟩) | (with_reducible exact ⟨y0, y1⟩) | go_keep) (first
      | (go_at_call 8
         refine (HCo.out w2.drew ((Below.refl _ _).drew)).mono ?_
         rintro e w3 ⟨⟨v3, rfl, hown3⟩, hb3⟩
         obtain ⟨a3, c3, rfl, hs3, hf3⟩ := hown3.ready
         have hB3 : Below w2.heap.size w2 w3 := Below.trans ((Below.refl _ _).drew) (hb3.mono (by simp))
         have hz3 := hB3.size; have aa0 := cellB y0 _ hB3; have aa1 := cellB y1 _ hB3; have hfd := field_ents x.module_ a3 x.entries.length c3
         clear hown3 hb3)
      | (go_at_call 8
         refine (HCo.out (w2.alloc (.cells #[.string ⟨#[]⟩, .slice none 0 0] 29)).drew (((Below.refl _ _).alloc (Nat.le_refl _) _).drew)).mono ?_
         rintro e w3 ⟨⟨v3, rfl, hown3⟩, hb3⟩
         obtain ⟨a3, c3, rfl, hs3, hf3⟩ := hown3.ready
         have hB3 : Below w2.heap.size w2 w3 := Below.trans (((Below.refl _ _).alloc (Nat.le_refl _) _).drew) (hb3.mono (by simp))
         have hz3 := hB3.size
         have HP3 : Hid (Bx w3 w2.heap.size 29 [.string ⟨#[]⟩, .slice none 0 0]) := Lib.hid (Bx.below (Bx.fresh w2 _ _) hb3 (by simp))
         have aa0 := cellB y0 _ hB3; have aa1 := cellB y1 _ hB3; have hfd := field_ents x.module_ a3 x.entries.length c3
         clear hown3 hb3)
      | (go_at_call 8
         refine (HCo.out (w2.drew.alloc (.cells #[.string ⟨#[]⟩, .slice none 0 0] 29)) (((Below.refl _ _).drew).alloc (Nat.le_refl _) _)).mono ?_
         rintro e w3 ⟨⟨v3, rfl, hown3⟩, hb3⟩
         obtain ⟨a3, c3, rfl, hs3, hf3⟩ := hown3.ready
         have hB3 : Below w2.heap.size w2 w3 := Below.trans (((Below.refl _ _).drew).alloc (Nat.le_refl _) _) (hb3.mono (by simp))
         have hz3 := hB3.size
         have HP3 : Hid (Bx w3 w2.heap.size 29 [.string ⟨#[]⟩, .slice none 0 0]) := Lib.hid (Bx.below (Bx.fresh w2.drew _ _) hb3 (by simp))
         have aa0 := cellB y0 _ hB3; have aa1 := cellB y1 _ hB3; have hfd := field_ents x.module_ a3 x.entries.length c3
         clear hown3 hb3)
      | (go_at_call 7
         have HP3' := HP3
         refine (HCm.out _ w3 (hB3.trans (Below.mono (B := w3.heap.size) (Below.refl _ _) hB3.size)) _ _ (hs3.below (Below.refl _ _)) (hf3.below (by simp))).mono ?_
         rintro e w4 ⟨⟨A, ev, a4, c4, rfl, hsay, hs4⟩, hb4⟩
         have hBs : Below w3.heap.size w3 w4 := Below.trans (Below.refl _ _) (hb4.mono (by simp))
         have hB4 : Below w2.heap.size w2 w4 := hB3.trans (hBs.mono hB3.size)
         have hz4 := hB4.size
         have HP4 : Hid (Bx w4 w2.heap.size 29 [.string ⟨#[]⟩, .slice none 0 0]) := Lib.hid (HP3.out.below hBs HP3.out.lt)
         have hl4 := HP4.out.lt; have c0 := HP4.out.cell 0 _ rfl; have f0 := HP4.out.fz 0; have c1 := HP4.out.cell 1 _ rfl; have f1 := HP4.out.fz 1
         have hn1 : ¬ w2.heap.size = w.heap.size := by have := HZ2.out; omega
         have hn2 : ¬ w.heap.size = w2.heap.size := fun e => hn1 e.symm
         have bb0 := cellB y0 _ hB4
         have bb1 := cellB y1 _ hB4)
      | (go_at_call 7
         refine (HCm.out _ w3 (hB3.trans (Below.mono (B := w3.heap.size) (Below.refl _ _) hB3.size)) _ _ (hs3.below (Below.refl _ _)) (hf3.below (by simp))).mono ?_
         rintro e w4 ⟨⟨A, ev, a4, c4, rfl, hsay, hs4⟩, hb4⟩
         have hBs : Below w3.heap.size w3 w4 := Below.trans (Below.refl _ _) (hb4.mono (by simp))
         have hB4 : Below w2.heap.size w2 w4 := hB3.trans (hBs.mono hB3.size)
         have hz4 := hB4.size
         have hn1 : ¬ w3.heap.size = w.heap.size := by have := HZ2.out; have := hB3.size; omega
         have hn2 : ¬ w.heap.size = w3.heap.size := fun e => hn1 e.symm
         have bb0 := cellB y0 _ hB4
         have bb1 := cellB y1 _ hB4)
      | (go_at_call 7
         refine (HCm.out _ (w3.alloc (.cells #[.string ⟨#[]⟩, .slice none 0 0] 29)) (hB3.trans (Below.mono (B := w3.heap.size) ((Below.refl _ _).alloc (Nat.le_refl _) _) hB3.size)) _ _ (hs3.below ((Below.refl _ _).alloc (Nat.le_refl _) _)) (hf3.below (by simp))).mono ?_
         rintro e w4 ⟨⟨A, ev, a4, c4, rfl, hsay, hs4⟩, hb4⟩
         have hBs : Below w3.heap.size w3 w4 := Below.trans ((Below.refl _ _).alloc (Nat.le_refl _) _) (hb4.mono (by simp))
         have hB4 : Below w2.heap.size w2 w4 := hB3.trans (hBs.mono hB3.size)
         have hz4 := hB4.size
         have HP4 : Hid (Bx w4 w3.heap.size 29 [.string ⟨#[]⟩, .slice none 0 0]) := Lib.hid (Bx.below (Bx.fresh w3 _ _) hb4 (by simp))
         have hl4 := HP4.out.lt; have c0 := HP4.out.cell 0 _ rfl; have f0 := HP4.out.fz 0; have c1 := HP4.out.cell 1 _ rfl; have f1 := HP4.out.fz 1
         have hn1 : ¬ w3.heap.size = w.heap.size := by have := HZ2.out; have := hB3.size; omega
         have hn2 : ¬ w.heap.size = w3.heap.size := fun e => hn1 e.symm
         have bb0 := cellB y0 _ hB4
         have bb1 := cellB y1 _ hB4))
      all_goals
        have HS4 := Lib.hid hs4; have HSy := Lib.hid hsay; have HBB := Lib.hid hB4; have HB3 := Lib.hid hB3; clear hs4 hsay hB4 hB3 hb4 y0 y1 aa0 aa1 bb0 bb1 hs3 hf3 hn1 hn2 hBs hfd
        go_wp2_with fail
        go_meet
        have hz2 := HZ2.out
      · exact ⟨w4.heap.size, A, ev, a4, c4, rfl, rfl, Lib.hid (Bx.fresh w4 _ _), HSy, Lib.hid ((HS4.out.below ((Below.refl _ _).alloc (Nat.le_refl _) _)).all), Lib.hid (HBB.out.alloc hz4 _)⟩
      · have hq := put2 (B := w2.heap.size) (g := w3.heap.size) (.string A.module_) (.slice a4 A.entries.length c4) HP4.out HS4.out (fun k hk _ => by
          rcases hk with hk | hk
          · have := hk.2; omega
          · simp at hk; omega) HBB.out hz3
        exact ⟨w3.heap.size, A, ev, a4, c4, rfl, rfl, hq.1, HSy, hq.2.1, hq.2.2⟩
      · have hq := put2 (B := w2.heap.size) (g := w2.heap.size) (.string A.module_) (.slice a4 A.entries.length c4) HP4.out HS4.out (fun k hk _ => by
          have hl3 := HP3'.out.lt
          rcases hk with hk | hk
          · have := hk.1; simp at this; omega
          · omega) HBB.out (Nat.le_refl _)
        exact ⟨w2.heap.size, A, ev, a4, c4, rfl, rfl, hq.1, HSy, hq.2.1, hq.2.2⟩
    case rest =>
      obtain ⟨gA, A, eA, aA, cA, rfl, rfl, HPA, HSA, HA, HBA⟩ := hcut; have hzA := HBA.out.size
      have HWc : Hid (Below w.heap.size w wc) := Lib.hid (HW2.out.trans (HBA.out.mono HW2.out.size))
      have HXc : Hid (Bx wc w.heap.size 24 [.string x.module_, .slice a n c]) := Lib.hid (HX2.out.below HBA.out HX2.out.lt)
      have hwc : w.heap.size < wc.heap.size := HXc.out.lt
      clear y0 y1 HX2 HCo; have y0 := HXc.out.cell 0 _ rfl; have y1 := HXc.out.cell 1 _ rfl
      have HD0 : Hid (x.entries.drop n = []) := Lib.hid (List.drop_eq_nil_of_le (by rw [HL.out]; omega))
      go_wp2_with fail
      go_loopw [5, 6, 7] (fun v5 v6 i wr => ∃ (k : Nat) (j : Int) (S2 : Blk), k ≤ n ∧ j = (k : Int) - 1 ∧ i = .int .i64 j ∧ Hid (Own REnt 43 (fun q => q < w.heap.size) wr wc.heap.size v5 (x.entries.drop k).reverse) ∧ Hid (Own REnt 43 S2 wr wc.heap.size v6 ((x.entries.drop k).reverse.map fixE)) ∧ Hid (Apart S2 wr v5) ∧ Hid (∀ q, v6.ownBlock = some q → v5.ownBlock ≠ some q) ∧ Below wc.heap.size wc wr) (fun _ _ i _ => (intOf i + 1).toNat)
      case atStart => exact ⟨n, _, fun _ => False, Nat.le_refl _, rfl, rfl, Lib.hid (by rw [HD0.out]; exact Own.nil _ _ _ _ _), Lib.hid (by rw [HD0.out]; exact Own.nil _ _ _ _ _), Lib.hid (fun q hq => hq.elim), Lib.hid (fun q hq => by simp [Value.ownBlock] at hq), Below.refl _ _⟩
      case round =>
        obtain ⟨k, j, S2, hk, hj, rfl, HO5, HO6, HAp, HDs, hB⟩ := hrel; have hzr := hB.size; have g0 := cellB y0 _ hB; have g1 := cellB y1 _ hB
        cases k with
        | zero =>
          obtain rfl : j = -1 := by omega
          clear hj
          have HWr : Hid (Below w.heap.size w wr) := Lib.hid (HWc.out.trans (hB.mono HWc.out.size))
          have hl5 : x.entries.reverse.length = n := by rw [List.length_reverse, HL.out]
          have hl6 : (x.entries.reverse.map fixE).length = n := by rw [List.length_map, hl5]
          have ho5 := HO5.out; have ho6 := HO6.out; rw [List.drop_zero] at ho5 ho6; obtain ⟨a5, c5, e5, hs5, _⟩ := ho5.slAt; rw [hl5] at e5 hs5; subst e5; have hf5 := ho5.fit; obtain ⟨a6, c6, e6, hs6, _⟩ := ho6.slAt; rw [hl6] at e6 hs6; subst e6; have hf6 := ho6.fit
          have HMb := Lib.hid (fun (W : World) (hW : Below wr.heap.size wr W) => signature_Make (mod := x.module_) (hs5.below hW) (hf5.below hW.size) (by omega) (fun e he => fine_of (HFe.out e (List.mem_reverse.1 he))) (by omega) (HE.out W (HWr.out.trans (hW.mono HWr.out.size))))
          have HMc := Lib.hid (fun (W : World) (hW : Below wr.heap.size wr W) => signature_Make (mod := x.module_) (hs6.below hW) (hf6.below hW.size) (by omega) (fun e he => by
            obtain ⟨e0, he0, rfl⟩ := List.mem_map.1 he
            exact fine_of (fixE_few (HFe.out e0 (List.mem_reverse.1 he0)))) (by omega) (HE.out W (HWr.out.trans (hW.mono HWr.out.size))))
          clear hl5 hl6 ho5 ho6 hs5 hs6 hf5 hf6 HO5 HO6 HAp HDs
          go_wp2_with fail
          refine (HMb.out wr (Below.refl _ _)).mono ?_
          rintro e w14 ⟨⟨B, eB, aB, cB, rfl, hsB, hslB⟩, hb14⟩
          have hg0 := cellB g0 _ hb14
          have hzl : w.heap.size < w14.heap.size := by have := hb14.size; have := HWr.out.size; omega
          have HA15 : Hid (Below w14.heap.size w14 (w14.alloc (.cells #[.string B.module_, .slice aB B.entries.length cB] 29))) := Lib.hid ((Below.refl _ _).alloc (Nat.le_refl _) _)
          have HX15 : Hid (Bx (w14.alloc (.cells #[.string B.module_, .slice aB B.entries.length cB] 29)) w14.heap.size 29 [.string B.module_, .slice aB B.entries.length cB]) := Lib.hid (Bx.fresh _ _ _)
          have HB15 : Hid (Below wr.heap.size wr (w14.alloc (.cells #[.string B.module_, .slice aB B.entries.length cB] 29))) := Lib.hid (hb14.trans (HA15.out.mono hb14.size))
          have HC2 := Lib.hid (HMc.out _ HB15.out); clear HMb HMc
          go_upto_region 18 with fail
          go_cut [3, 4, 13, 14, 15, 16] (fun v3 v4 v13 v14 v15 v16 W => ∃ (D : Ifc) (gB gC : Nat) (aB aC : Option Addr) (cB cC : Nat), v3 = .pointer (some ⟨gA, 0, none⟩) ∧ v4 = .int .i64 eA ∧ v13 = .pointer (some ⟨gB, 0, none⟩) ∧ v14 = .int .i64 eA ∧ v15 = .pointer (some ⟨gC, 0, none⟩) ∧ v16 = .int .i64 eA ∧ Hid (Bx W gA 29 [.string D.module_, .slice aA D.entries.length cA]) ∧ Hid (Bx W gB 29 [.string D.module_, .slice aB D.entries.length cB]) ∧ Hid (Bx W gC 29 [.string D.module_, .slice aC D.entries.length cC]) ∧ Hid (Sl REnt All W aA D.entries.length cA D.entries) ∧ Hid (Sl REnt All W aB D.entries.length cB D.entries) ∧ Hid (Sl REnt All W aC D.entries.length cC D.entries) ∧ Hid (Below w.heap.size w W) ∧ Hid (eA = 0 → validIfc D = true) ∧ Hid (eA = 0 ∨ (eA = 1 ∧ D = noIfc) ∨ (eA = 8 ∧ D = noIfc)) ∧ Hid (D.entries.length ≤ 6 ∧ D.module_.size ≤ 40 ∧ ∀ e ∈ D.entries, szS e.scheme ∧ e.scheme.params.length ≤ 13 ∧ e.name.size ≤ 40))
          case rest =>
            obtain ⟨D, gB, gC, aB, aC, cB, cC, rfl, rfl, rfl, rfl, rfl, rfl, HPA7, HPB7, HPC7, HSA7, HSB7, HSC7, HWS, HVl, HEv, HDe⟩ := hcut; clear HA15 HX15 HB15 HC2 HSA HA HBA HPA HCm HS HFe HWr hB hzr hg0 hzl g0 g1 y0 y1 HXc HWc hwc hsB hslB hb14 HL hn6 hm hfm HZ2 HW2 hzA HD0; have hA6 := HDe.out.1; have hAm := HDe.out.2.1; have p0 := HPA7.out.cell 0 _ rfl; have p1 := HPA7.out.cell 1 _ rfl; have q0 := HPB7.out.cell 0 _ rfl; have q1 := HPB7.out.cell 1 _ rfl; have r0 := HPC7.out.cell 0 _ rfl; have r1 := HPC7.out.cell 1 _ rfl
            have HTA := Lib.hid (fun (W : World) (hW : Below wc.heap.size wc W) => (theirs_at (HSA7.out.below hW) hA6).mono fun e w' ⟨h, hb⟩ => (⟨h, hW.trans (hb.mono hW.size), hb⟩ : _ ∧ Below wc.heap.size wc w' ∧ Below W.heap.size W w'))
            have HTB := Lib.hid (fun (W : World) (hW : Below wc.heap.size wc W) => (theirs_at (HSB7.out.below hW) hA6).mono fun e w' ⟨h, hb⟩ => (⟨h, hW.trans (hb.mono hW.size), hb⟩ : _ ∧ Below wc.heap.size wc w' ∧ Below W.heap.size W w'))
            have HTC := Lib.hid (fun (W : World) (hW : Below wc.heap.size wc W) => (theirs_at (HSC7.out.below hW) hA6).mono fun e w' ⟨h, hb⟩ => (⟨h, hW.trans (hb.mono hW.size), hb⟩ : _ ∧ Below wc.heap.size wc w' ∧ Below W.heap.size W w'))
            have HEq : Hid (∀ (W : World) (a1 a2 : Option Addr) (c1 c2 : Nat), Below wc.heap.size wc W → Sl REnt All W a1 D.entries.length c1 D.entries → Sl REnt All W a2 D.entries.length c2 D.entries → Calls Tryz.prog 11 #[.agg #[.string D.module_, .slice a1 D.entries.length c1], .agg #[.string D.module_, .slice a2 D.entries.length c2]] W fun e w' => e = .returned (.bool true) ∧ Below wc.heap.size wc w') := Lib.hid (fun W a1 a2 c1 c2 hW h1 h2 => by
              have h := ref57_Equal (x := D) (y := D) h1 h2 (fun e he => by have := (HDe.out.2.2 e he).2.1; unfold slim; omega) (fun e he => by have := (HDe.out.2.2 e he).2.1; unfold slim; omega)
              rw [(eqIfc_iff D D).2 rfl] at h
              exact h.mono fun e w' ⟨h1, hb⟩ => ⟨h1, hW.trans (hb.mono hW.size)⟩)
            have HVal : Hid (validIfc D = true → ∀ W, Below wc.heap.size wc W → Calls Tryz.prog 13 #[.agg #[.string D.module_, .slice aA D.entries.length cA]] W fun e w' => e = .returned (.bool true) ∧ Below wc.heap.size wc w') := Lib.hid (fun hv W hW => by
              have h := signature_Valid (HSA7.out.below hW) (fun e he => ⟨(HDe.out.2.2 e he).1, by have := (HDe.out.2.2 e he).2.2; omega⟩) (by omega) (HE.out W (HWS.out.trans (hW.mono HWS.out.size)))
              rw [hv] at h
              exact h.mono fun e w' ⟨h1, hb⟩ => ⟨h1, hW.trans (hb.mono hW.size)⟩)
            have HWend := Lib.hid (fun (W : World) (hW : Below wc.heap.size wc W) => HWS.out.trans (hW.mono HWS.out.size))
            clear HPA7 HPB7 HPC7 HSA7 HSB7 HSC7 HWS HDe hA6 hAm HE
            go_wp2_with fail
            rcases HEv.out with h0 | h0 | h0
            · have HVal := Lib.hid (HVal.out (HVl.out h0))
              clear HVl HEv; subst h0
              go_region_held3 (fun W => W.cell? ⟨gA, 0, none⟩ = some (.string D.module_) ∧ W.cell? ⟨gA, 1, none⟩ = some (.slice aA D.entries.length cA) ∧ W.cell? ⟨gB, 0, none⟩ = some (.string D.module_) ∧ W.cell? ⟨gB, 1, none⟩ = some (.slice aB D.entries.length cB) ∧ W.cell? ⟨gC, 0, none⟩ = some (.string D.module_) ∧ W.cell? ⟨gC, 1, none⟩ = some (.slice aC D.entries.length cC)) (first | (with_reducible exact ⟨zp0, zp1, zq0, zq1, zr0, zr1⟩) | (with_reducible exact ⟨p0, p1, q0, q1, r0, r1⟩) | go_keep) (first
                | (go_at_call_of 12 (Value.slice aA D.entries.length cA)
                   refine (HTA.out _ ?hw).mono ?_
                   case hw => (repeat (first | assumption | exact Below.refl _ _ | exact Hid.out (by assumption) | refine blw_alloc ?_ _ | refine blw_drew ?_))
                   rintro e u1 ⟨⟨t1, d1, rfl, hu1⟩, hBz, hb1⟩
                   have zp0 := cellB p0 _ hBz; have zp1 := cellB p1 _ hBz; have zq0 := cellB q0 _ hBz; have zq1 := cellB q1 _ hBz; have zr0 := cellB r0 _ hBz
                   have zr1 := cellB r1 _ hBz)
                | (go_at_call_of 12 (Value.slice aB D.entries.length cB)
                   refine (HTB.out _ ?hw).mono ?_
                   case hw => (repeat (first | assumption | exact Below.refl _ _ | exact Hid.out (by assumption) | refine blw_alloc ?_ _ | refine blw_drew ?_))
                   rintro e u2 ⟨⟨t2, d2, rfl, hu2⟩, hBz, hb2⟩
                   have zp0 := cellB p0 _ hBz; have zp1 := cellB p1 _ hBz; have zq0 := cellB q0 _ hBz; have zq1 := cellB q1 _ hBz; have zr0 := cellB r0 _ hBz
                   have zr1 := cellB r1 _ hBz)
                | (go_at_call_of 12 (Value.slice aC D.entries.length cC)
                   refine (HTC.out _ ?hw).mono ?_
                   case hw => (repeat (first | assumption | exact Below.refl _ _ | exact Hid.out (by assumption) | refine blw_alloc ?_ _ | refine blw_drew ?_))
                   rintro e u3 ⟨⟨t3, d3, rfl, hu3⟩, hBz, hb3⟩
                   have zp0 := cellB p0 _ hBz; have zp1 := cellB p1 _ hBz; have zq0 := cellB q0 _ hBz; have zq1 := cellB q1 _ hBz; have zr0 := cellB r0 _ hBz
                   have zr1 := cellB r1 _ hBz)
                | (go_at_call 11
                   refine (HEq.out _ _ _ _ _ ?hw ?h1 ?h2).mono ?_
                   case hw => (repeat (first | assumption | exact Below.refl _ _ | exact Hid.out (by assumption) | refine blw_alloc ?_ _ | refine blw_drew ?_))
                   case h1 => (first | exact hu1 | exact hu1.below hb2 | exact hu1.below hb3)
                   case h2 => (first | exact hu2 | exact hu3 | exact hu2.below hb1 | exact hu3.below hb1)
                   rintro e u4 ⟨rfl, hBz⟩
                   have zp0 := cellB p0 _ hBz; have zp1 := cellB p1 _ hBz; have zq0 := cellB q0 _ hBz; have zq1 := cellB q1 _ hBz; have zr0 := cellB r0 _ hBz
                   have zr1 := cellB r1 _ hBz)
                | (go_at_call 13
                   refine (HVal.out _ ?hw).mono ?_
                   case hw => (repeat (first | assumption | exact Below.refl _ _ | exact Hid.out (by assumption) | refine blw_alloc ?_ _ | refine blw_drew ?_))
                   rintro e u5 ⟨rfl, hBz⟩
                   have zp0 := cellB p0 _ hBz; have zp1 := cellB p1 _ hBz; have zq0 := cellB q0 _ hBz; have zq1 := cellB q1 _ hBz; have zr0 := cellB r0 _ hBz
                   have zr1 := cellB r1 _ hBz))
              all_goals go_wp2_with fail
              all_goals go_ret
              all_goals exact ⟨rfl, HWend.out _ hBz⟩
            · obtain ⟨h0, hDn⟩ := h0
              have HTn : Hid (∀ (a9 : Option Addr) (c9 : Nat) (W : World), Calls Tryz.prog 12 #[.agg #[.string D.module_, .slice a9 D.entries.length c9]] W fun e w' => e = .returned (.agg #[.string D.module_, .slice none 0 0]) ∧ Below W.heap.size W w') := Lib.hid (fun a9 c9 W => by rw [hDn]; exact theirs_none _ a9 c9 W)
              have HQn : Hid (∀ (W : World), Calls Tryz.prog 11 #[.agg #[.string D.module_, .slice none 0 0], .agg #[.string D.module_, .slice none 0 0]] W fun e w' => e = .returned (.bool true) ∧ Below W.heap.size W w') := Lib.hid (fun W => by
                rw [hDn]
                have h := ref57_Equal (S := All) (T := All) (x := noIfc) (y := noIfc) (w := W) (a := none) (a2 := none) (c := 0) (c2 := 0) (Sl.empty _ _ _) (Sl.empty _ _ _) (fun e he => absurd he (List.not_mem_nil)) (fun e he => absurd he (List.not_mem_nil))
                rw [(eqIfc_iff noIfc noIfc).2 rfl] at h
                exact h)
              clear HVl HEv HVal hDn HTA HTB HTC HEq; subst h0; have Z0 := Later.cell p0; have Z1 := Later.cell p1; have Z2 := Later.cell q0; have Z3 := Later.cell q1; have Z4 := Later.cell r0; have Z5 := Later.cell r1
              refine wp_region_later (by kernel_rfl) (by kernel_rfl) ?_
              repeat (go_big_quiet_step (first | fail | exact Later.call (HTn.out _ _ _) | exact Later.call (HQn.out _)))
              refine wpQuiet_nil ?_
              rintro _ ⟨t9, rfl⟩
              go_wp2_with fail
              go_ret
              exact ⟨rfl, HWend.out _ t9.b⟩
            · obtain ⟨h0, hDn⟩ := h0
              have HTn : Hid (∀ (a9 : Option Addr) (c9 : Nat) (W : World), Calls Tryz.prog 12 #[.agg #[.string D.module_, .slice a9 D.entries.length c9]] W fun e w' => e = .returned (.agg #[.string D.module_, .slice none 0 0]) ∧ Below W.heap.size W w') := Lib.hid (fun a9 c9 W => by rw [hDn]; exact theirs_none _ a9 c9 W)
              have HQn : Hid (∀ (W : World), Calls Tryz.prog 11 #[.agg #[.string D.module_, .slice none 0 0], .agg #[.string D.module_, .slice none 0 0]] W fun e w' => e = .returned (.bool true) ∧ Below W.heap.size W w') := Lib.hid (fun W => by
                rw [hDn]
                have h := ref57_Equal (S := All) (T := All) (x := noIfc) (y := noIfc) (w := W) (a := none) (a2 := none) (c := 0) (c2 := 0) (Sl.empty _ _ _) (Sl.empty _ _ _) (fun e he => absurd he (List.not_mem_nil)) (fun e he => absurd he (List.not_mem_nil))
                rw [(eqIfc_iff noIfc noIfc).2 rfl] at h
                exact h)
              clear HVl HEv HVal hDn HTA HTB HTC HEq; subst h0; have Z0 := Later.cell p0; have Z1 := Later.cell p1; have Z2 := Later.cell q0; have Z3 := Later.cell q1; have Z4 := Later.cell r0; have Z5 := Later.cell r1
              refine wp_region_later (by kernel_rfl) (by kernel_rfl) ?_
              repeat (go_big_quiet_step (first | fail | exact Later.call (HTn.out _ _ _) | exact Later.call (HQn.out _)))
              refine wpQuiet_nil ?_
              rintro _ ⟨t9, rfl⟩
              go_wp2_with fail
              go_ret
              exact ⟨rfl, HWend.out _ t9.b⟩
          case first =>
          go_wp2_with fail
          refine HC2.out.mono ?_
          rintro e w16 ⟨⟨C, eC, aC, cC, rfl, hsC, hslC⟩, hb16⟩
          obtain ⟨⟨rfl, rfl⟩, ⟨rfl, rfl⟩, hval⟩ := order_law HSA.out hsB hsC (by rw [HL.out]; omega)
          obtain ⟨hA6, hAm, hAe⟩ := says_few HSA.out hfm (by rw [HL.out]; exact hn6) HFe.out
          have HVl := Lib.hid hval; have HEv := Lib.hid (says_ev HSA.out); have HAe := Lib.hid hAe
          have HBr16 : Hid (Below wr.heap.size wr w16) := Lib.hid (HB15.out.trans (hb16.mono HB15.out.size))
          have HA17 : Hid (Below w16.heap.size w16 (w16.alloc (.cells #[.string A.module_, .slice aC A.entries.length cC] 29))) := Lib.hid ((Below.refl _ _).alloc (Nat.le_refl _) _)
          have HBr : Hid (Below wr.heap.size wr (w16.alloc (.cells #[.string A.module_, .slice aC A.entries.length cC] 29))) := Lib.hid (HBr16.out.trans (HA17.out.mono HBr16.out.size))
          have HPr : Hid (Bx wr gA 29 [.string A.module_, .slice aA A.entries.length cA]) := Lib.hid (HPA.out.below hB HPA.out.lt)
          have HPA7 : Hid (Bx (w16.alloc (.cells #[.string A.module_, .slice aC A.entries.length cC] 29)) gA 29 [.string A.module_, .slice aA A.entries.length cA]) := Lib.hid (HPr.out.below HBr.out HPr.out.lt)
          have HPB7 : Hid (Bx (w16.alloc (.cells #[.string A.module_, .slice aC A.entries.length cC] 29)) w14.heap.size 29 [.string A.module_, .slice aB A.entries.length cB]) := Lib.hid ((HX15.out.below hb16 HX15.out.lt).alloc _)
          have HPC7 : Hid (Bx (w16.alloc (.cells #[.string A.module_, .slice aC A.entries.length cC] 29)) w16.heap.size 29 [.string A.module_, .slice aC A.entries.length cC]) := Lib.hid (Bx.fresh _ _ _)
          have HSA7 := Lib.hid (HA.out.below (hB.trans (HBr.out.mono hzr))); have HSB7 := Lib.hid ((((hslB.all).below HA15.out).below hb16).below HA17.out); have HSC7 := Lib.hid ((hslC.all).below HA17.out)
          have HWS : Hid (Below w.heap.size w (w16.alloc (.cells #[.string A.module_, .slice aC A.entries.length cC] 29))) := Lib.hid (HWr.out.trans (HBr.out.mono HWr.out.size))
          go_wp2_with fail
          go_meet
          exact ⟨A, _, _, _, _, _, _, rfl, rfl, rfl, rfl, rfl, rfl, HPA7, HPB7, HPC7, HSA7, HSB7, HSC7, HWS, HVl, HEv, Lib.hid ⟨hA6, hAm, HAe.out⟩⟩
        | succ k =>
          obtain rfl : j = (k : Int) := by omega
          have hlt : k < n := by omega
          clear hj
          have HSr : Hid (Sl REnt (fun q => q < w.heap.size) wr a n c x.entries) := Lib.hid (HS.out.below (HWc.out.trans (hB.mono HWc.out.size)))
          obtain ⟨b, off, rfl, hbW, _⟩ := HSr.out.form k hlt; obtain ⟨_, _, _, hr, ⟨⟨ap, cp, rfl, _⟩, ⟨at_, ct, rfl, _⟩, ⟨aq, cq, rfl, _⟩⟩, c0, c1, c2, c3, c4, c5⟩ := HSr.out.ent k hlt
          have hkl : k < x.entries.length := by rw [HL.out]; exact hlt
          have HRev := Lib.hid (rev_next hkl); have hfk := HFe.out _ (getD_mem hkl); have HR := Lib.hid hr
          have HLen : Hid ((x.entries.drop (k + 1)).reverse.length ≤ 6) := Lib.hid (by rw [List.length_reverse, List.length_drop, HL.out]; omega)
          clear hr hkl
          generalize x.entries.getD k default = y at *
          have HCf := Lib.hid (can_few hfk.2.1 hfk.2.2.1); have HFk := Lib.hid hfk; have HFb := Lib.hid (fixB_at y); clear hfk; obtain ⟨v5a, v5m, v5c, rfl⟩ := HO5.out.shape; obtain ⟨v6a, v6m, v6c, rfl⟩ := HO6.out.shape
          have HB5 := Lib.hid (fun q => HO5.out.block (k := q))
          have HB6 := Lib.hid (fun q => HO6.out.block (k := q))
          have HA : Hid (Below wr.heap.size wr (wr.alloc (.cells [.string y.name, .slice ap y.scheme.params.length cp, .string y.scheme.result.elem, .string y.scheme.result.shape.row, .slice at_ y.scheme.result.shape.dims.length ct, .slice aq y.scheme.wh.length cq].toArray 43))) := Lib.hid ((Below.refl _ _).alloc (Nat.le_refl _) _)
          have HX : Hid (Bx (wr.alloc (.cells [.string y.name, .slice ap y.scheme.params.length cp, .string y.scheme.result.elem, .string y.scheme.result.shape.row, .slice at_ y.scheme.result.shape.dims.length ct, .slice aq y.scheme.wh.length cq].toArray 43)) wr.heap.size 43 [.string y.name, .slice ap y.scheme.params.length cp, .string y.scheme.result.elem, .string y.scheme.result.shape.row, .slice at_ y.scheme.result.shape.dims.length ct, .slice aq y.scheme.wh.length cq]) := Lib.hid (Bx.fresh _ _ _)
          have HR5 := Lib.hid (fun (W : World) (hW : Below wr.heap.size wr W) => REnt.below (REnt.mono HR.out (S' := fun q => q < w.heap.size ∧ (Value.slice v5a v5m v5c).ownBlock ≠ some q) (fun q hq _ => ⟨hq, fun e => by have := (HB5.out q e).1; omega⟩)) hW)
          go_wp2_with (at_builtin; refine app_one elemEnt rfl _ _ rfl wc.heap.size _ _ rfl ((HO5.out.below HA.out).alloc _) _ y [.string y.name, .slice ap y.scheme.params.length cp, .string y.scheme.result.elem, .string y.scheme.result.shape.row, .slice at_ y.scheme.result.shape.dims.length ct, .slice aq y.scheme.wh.length cq] rfl (HR5.out _ (HA.out.alloc (by simp) _)) (cellsN 43 (by (simp only [drew_heap, alloc_heap, Array.getElem?_push, Array.size_push]; simp))) (by have := HLen.out; omega) (by have := HLen.out; unfold maxLen; omega) (by simp; omega) ?_; intro v9 w9 hown9 hb9 hk9; obtain ⟨a9, m9, c9, rfl⟩ := hown9.shape; have HX9 : Hid (Bx w9 wr.heap.size 43 [.string y.name, .slice ap y.scheme.params.length cp, .string y.scheme.result.elem, .string y.scheme.result.shape.row, .slice at_ y.scheme.result.shape.dims.length ct, .slice aq y.scheme.wh.length cq]) := Lib.hid ((hk9.block wr.heap.size (by simp; omega) (fun e => by have := (HB5.out _ e).2; omega)).trans (HX.out.alloc _)); have b0 := HX9.out.cell 0 _ rfl; have b1 := HX9.out.cell 1 _ rfl; have b2 := HX9.out.cell 2 _ rfl; have b3 := HX9.out.cell 3 _ rfl; have b4 := HX9.out.cell 4 _ rfl; have b5 := HX9.out.cell 5 _ rfl)
          have hz9 : wr.heap.size + 2 ≤ w9.heap.size := by have := hb9.size; simp at this; omega
          have HB9 : Hid (Below wc.heap.size wc w9) := Lib.hid ((hB.trans ((HA.out.alloc (by simp) _).mono hzr)).trans hb9)
          have HK9 : Hid (Kl (.slice v5a v5m v5c) (.slice a9 m9 c9) wr w9) := Lib.hid ((Kl.below (HA.out.alloc (by simp) _)).trans hk9.kl (by simp; omega))
          have HNx : Hid ((Value.slice a9 m9 c9).ownBlock ≠ some wr.heap.size) := Lib.hid (fun e => by
            rcases hk9.own with r | r
            · rw [r] at e; have := (HB5.out _ e).2; omega
            · rw [r] at e; exact absurd (Option.some.inj e) (by simp <;> omega))
          have HO9 : Hid (Own REnt 43 (fun q => q < w.heap.size) w9 wc.heap.size (.slice a9 m9 c9) (x.entries.drop k).reverse) := Lib.hid (by rw [← HRev.out]; exact hown9)
          have HO69 : Hid (Own REnt 43 S2 w9 wc.heap.size (.slice v6a v6m v6c) ((x.entries.drop (k + 1)).reverse.map fixE)) := Lib.hid (HO6.out.frame (fun q hq h => HK9.out.block q hq (by rcases h with h | h; exact (HAp.out q h).2; exact HDs.out q h)) (by omega))
          have HDs9 : Hid (∀ q, (Value.slice v6a v6m v6c).ownBlock = some q → (Value.slice a9 m9 c9).ownBlock ≠ some q) := Lib.hid (fun q e e2 => (HK9.out.own q e2).elim (HDs.out q e) (fun r => by have := (HB6.out q e).2; omega))
          have HAp9 := Lib.hid (HAp.out.kl HK9.out (by omega))
          have HB59 := Lib.hid (fun q => HO9.out.block (k := q))
          have HR9 : Hid (REnt.rd (fun q => q < w.heap.size) w9 [.string y.name, .slice ap y.scheme.params.length cp, .string y.scheme.result.elem, .string y.scheme.result.shape.row, .slice at_ y.scheme.result.shape.dims.length ct, .slice aq y.scheme.wh.length cq] y) := Lib.hid (REnt.frame HR.out (fun q hq hlt2 => HK9.out.block q hlt2 (fun e => by have := (HB5.out q e).1; omega)))
          obtain ⟨cs', e', hsch⟩ := HR9.out
          replace e' : [.string y.name, .slice ap y.scheme.params.length cp, .string y.scheme.result.elem, .string y.scheme.result.shape.row, .slice at_ y.scheme.result.shape.dims.length ct, .slice aq y.scheme.wh.length cq] = .string y.name :: cs' := e'
          cases e'
          have HC1 := Lib.hid (ref12_Canonical hsch HFk.out.1 (by have := HFk.out.2.1; omega) (fun hv => by have := HFk.out.2.2.1 hv; omega))
          clear hsch hown9 hb9 hk9 c0 c1 c2 c3 c4 c5 HO5 HO6 HK9 HA HX HR5 g0 g1 b0 b1 b2 b3 b4 b5
          refine HC1.out.mono ?_
          rintro e w10 ⟨⟨ds, rfl, hds⟩, hb10⟩
          clear HC1; obtain ⟨z, hzc⟩ : ∃ z, can y.scheme = z := ⟨_, rfl⟩; have HZc := Lib.hid hzc; rw [hzc] at HFb HCf hds; clear hzc
          generalize canErr y.scheme = ce1 at *
          obtain ⟨_, _, _, rfl, ⟨p5, pc5, rfl, hp5⟩, ⟨t5, tc5, rfl, ht5⟩, ⟨q5, qc5, rfl, hq5⟩⟩ := hds
          have HDS : Hid (RSch.rd (fun q => w9.heap.size ≤ q) w10 [.slice p5 z.params.length pc5, .string z.result.elem, .string z.result.shape.row, .slice t5 z.result.shape.dims.length tc5, .slice q5 z.wh.length qc5] z) := Lib.hid ⟨_, _, _, rfl, ⟨p5, pc5, rfl, hp5⟩, ⟨t5, tc5, rfl, ht5⟩, ⟨q5, qc5, rfl, hq5⟩⟩
          clear hp5 ht5 hq5; have hz10 := hb10.size; have HB10 := Lib.hid hb10
          have HA11 : Hid (Below w10.heap.size w10 (w10.alloc (.cells [.slice p5 z.params.length pc5, .string z.result.elem, .string z.result.shape.row, .slice t5 z.result.shape.dims.length tc5, .slice q5 z.wh.length qc5].toArray 41))) := Lib.hid ((Below.refl _ _).alloc (Nat.le_refl _) _)
          have HG11 : Hid (Bx (w10.alloc (.cells [.slice p5 z.params.length pc5, .string z.result.elem, .string z.result.shape.row, .slice t5 z.result.shape.dims.length tc5, .slice q5 z.wh.length qc5].toArray 41)) w10.heap.size 41 [.slice p5 z.params.length pc5, .string z.result.elem, .string z.result.shape.row, .slice t5 z.result.shape.dims.length tc5, .slice q5 z.wh.length qc5]) := Lib.hid (Bx.fresh _ _ _)
          have HC2 := Lib.hid (ref12_Canonical (RSch.below HDS.out HA11.out) HCf.out.1 (by have := HCf.out.2.1; omega) (fun _ => by have := HCf.out.2.2; omega))
          have HCf2 := Lib.hid (can_few HCf.out.2.1 (fun _ => HCf.out.2.2))
          clear hb10
          go_wp2_with fail
          refine HC2.out.mono ?_
          rintro e w12 ⟨⟨ds, rfl, hds⟩, hb12⟩
          clear HC2
          generalize can z = z2 at *
          generalize canErr z = ce2 at *
          obtain ⟨_, _, _, rfl, ⟨p6, pc6, rfl, hp6⟩, ⟨t6, tc6, rfl, ht6⟩, ⟨q6, qc6, rfl, hq6⟩⟩ := hds
          have HZtwo : Hid (RSch.rd All w12 [.slice p6 z2.params.length pc6, .string z2.result.elem, .string z2.result.shape.row, .slice t6 z2.result.shape.dims.length tc6, .slice q6 z2.wh.length qc6] z2) := Lib.hid (RSch.mono ⟨_, _, _, rfl, ⟨p6, pc6, rfl, hp6⟩, ⟨t6, tc6, rfl, ht6⟩, ⟨q6, qc6, rfl, hq6⟩⟩ (fun _ _ _ => trivial))
          clear hp6 ht6 hq6
          have HB12 : Hid (Below w10.heap.size w10 w12) := Lib.hid (HA11.out.trans (hb12.mono HA11.out.size))
          have HG12 : Hid (Bx w12 w10.heap.size 41 [.slice p5 z.params.length pc5, .string z.result.elem, .string z.result.shape.row, .slice t5 z.result.shape.dims.length tc5, .slice q5 z.wh.length qc5]) := Lib.hid (HG11.out.below hb12 HG11.out.lt)
          have hz12 : w10.heap.size + 1 ≤ w12.heap.size := by have := hb12.size; simpa using this
          have HB912 : Hid (Below w9.heap.size w9 w12) := Lib.hid (HB10.out.trans (HB12.out.mono hz10))
          have HX12 : Hid (Bx w12 wr.heap.size 43 [.string y.name, .slice ap y.scheme.params.length cp, .string y.scheme.result.elem, .string y.scheme.result.shape.row, .slice at_ y.scheme.result.shape.dims.length ct, .slice aq y.scheme.wh.length cq]) := Lib.hid (HX9.out.below HB912.out HX9.out.lt)
          clear hb12 HA11 HG11
          have HA13 : Hid (Below w12.heap.size w12 (w12.alloc (.cells [.slice p6 z2.params.length pc6, .string z2.result.elem, .string z2.result.shape.row, .slice t6 z2.result.shape.dims.length tc6, .slice q6 z2.wh.length qc6].toArray 41))) := Lib.hid ((Below.refl _ _).alloc (Nat.le_refl _) _)
          have HCe := Lib.hid (ref12_EqualScheme (RSch.below HDS.out (HB12.out.trans (HA13.out.mono (by omega)))) (RSch.below HZtwo.out HA13.out) (by have := HCf.out.2.1; omega) (by have := HCf2.out.2.1; omega))
          have HB913 : Hid (Below w9.heap.size w9 (w12.alloc (.cells [.slice p6 z2.params.length pc6, .string z2.result.elem, .string z2.result.shape.row, .slice t6 z2.result.shape.dims.length tc6, .slice q6 z2.wh.length qc6].toArray 41))) := Lib.hid (HB912.out.trans (HA13.out.mono (by omega)))
          have HX13 : Hid (Bx (w12.alloc (.cells [.slice p6 z2.params.length pc6, .string z2.result.elem, .string z2.result.shape.row, .slice t6 z2.result.shape.dims.length tc6, .slice q6 z2.wh.length qc6].toArray 41)) wr.heap.size 43 [.string y.name, .slice ap y.scheme.params.length cp, .string y.scheme.result.elem, .string y.scheme.result.shape.row, .slice at_ y.scheme.result.shape.dims.length ct, .slice aq y.scheme.wh.length cq]) := Lib.hid (HX12.out.below HA13.out HX12.out.lt)
          have HG13 : Hid (Bx (w12.alloc (.cells [.slice p6 z2.params.length pc6, .string z2.result.elem, .string z2.result.shape.row, .slice t6 z2.result.shape.dims.length tc6, .slice q6 z2.wh.length qc6].toArray 41)) w10.heap.size 41 [.slice p5 z.params.length pc5, .string z.result.elem, .string z.result.shape.row, .slice t5 z.result.shape.dims.length tc5, .slice q5 z.wh.length qc5]) := Lib.hid (HG12.out.below HA13.out HG12.out.lt)
          have x0 := HX12.out.cell 0 _ rfl; have x1 := HX12.out.cell 1 _ rfl; have x2 := HX12.out.cell 2 _ rfl; have x3 := HX12.out.cell 3 _ rfl; have x4 := HX12.out.cell 4 _ rfl; have x5 := HX12.out.cell 5 _ rfl; have g0 := HG12.out.cell 0 _ rfl; have g1 := HG12.out.cell 1 _ rfl; have g2 := HG12.out.cell 2 _ rfl; have g3 := HG12.out.cell 3 _ rfl; have g4 := HG12.out.cell 4 _ rfl
          have hxl : wr.heap.size < w12.heap.size := HX12.out.lt
          have hgl : w10.heap.size < w12.heap.size := HG12.out.lt
          obtain ⟨S3, hS3⟩ : ∃ S3 : Blk, S3 = fun q => S2 q ∨ q < w.heap.size ∨ (w9.heap.size ≤ q ∧ q < w10.heap.size) := ⟨_, rfl⟩
          have HS3 : Hid (∀ q, S3 q ↔ S2 q ∨ q < w.heap.size ∨ (w9.heap.size ≤ q ∧ q < w10.heap.size)) := Lib.hid (fun q => by rw [hS3])
          clear hS3
          have HL6 : Hid (((x.entries.drop (k + 1)).reverse.map fixE).length ≤ 6) := Lib.hid (by rw [List.length_map]; exact HLen.out)
          have HRev6 : Hid ((x.entries.drop (k + 1)).reverse.map fixE ++ [fixE y] = (x.entries.drop k).reverse.map fixE) := Lib.hid (by rw [← HRev.out, List.map_append]; rfl)
          have HA3 : Hid (∀ q, S3 q → q < w10.heap.size ∧ q ≠ wr.heap.size ∧ (Value.slice a9 m9 c9).ownBlock ≠ some q ∧ (Value.slice v6a v6m v6c).ownBlock ≠ some q ∨ S2 q) := Lib.hid (fun q hq => by
            rcases (HS3.out q).1 hq with h | h | h
            · exact .inr h
            · exact .inl ⟨by omega, by omega, fun e => by have := (HB59.out q e).1; omega, fun e => by have := (HB6.out q e).1; omega⟩
            · exact .inl ⟨h.2, by omega, fun e => by have := (HB59.out q e).2; omega, fun e => by have := (HB6.out q e).2; omega⟩)
          cases h1 : (ce1 == 0) with
          | false =>
            have HFy : Hid (fixE y = y) := Lib.hid (fixE_no (by rw [HFb.out, h1]; rfl))
            have HBQ := HB913
            have HZ10 : Hid (w10.heap.size ≤ ((w12.alloc (.cells [.slice p6 z2.params.length pc6, .string z2.result.elem, .string z2.result.shape.row, .slice t6 z2.result.shape.dims.length tc6, .slice q6 z2.wh.length qc6].toArray 41))).heap.size) := Lib.hid (by simp; omega)
            have HKQ : Hid (∀ q, q < w9.heap.size → q ≠ wr.heap.size → ((w12.alloc (.cells [.slice p6 z2.params.length pc6, .string z2.result.elem, .string z2.result.shape.row, .slice t6 z2.result.shape.dims.length tc6, .slice q6 z2.wh.length qc6].toArray 41))).heap[q]? = w9.heap[q]?) := Lib.hid (fun q hq _ => HBQ.out.block q hq)
            have HZQ : Hid (w9.heap.size ≤ ((w12.alloc (.cells [.slice p6 z2.params.length pc6, .string z2.result.elem, .string z2.result.shape.row, .slice t6 z2.result.shape.dims.length tc6, .slice q6 z2.wh.length qc6].toArray 41))).heap.size) := Lib.hid HBQ.out.size
            have HRy : Hid (REnt.rd (fun q => S3 q ∧ (Value.slice v6a v6m v6c).ownBlock ≠ some q) (w12.alloc (.cells [.slice p6 z2.params.length pc6, .string z2.result.elem, .string z2.result.shape.row, .slice t6 z2.result.shape.dims.length tc6, .slice q6 z2.wh.length qc6].toArray 41)) [.string y.name, .slice ap y.scheme.params.length cp, .string y.scheme.result.elem, .string y.scheme.result.shape.row, .slice at_ y.scheme.result.shape.dims.length ct, .slice aq y.scheme.wh.length cq] (fixE y)) := Lib.hid (by
              rw [HFy.out]
              exact REnt.below (REnt.mono HR9.out (fun q hq _ => ⟨(HS3.out q).2 (.inr (.inl hq)), fun e => by have := (HB6.out q e).1; omega⟩)) HBQ.out)
            have HBw : Hid (Below wc.heap.size wc (w12.alloc (.cells [.slice p6 z2.params.length pc6, .string z2.result.elem, .string z2.result.shape.row, .slice t6 z2.result.shape.dims.length tc6, .slice q6 z2.wh.length qc6].toArray 41))) := Lib.hid (HB9.out.trans (HBQ.out.mono (by omega)))
            have HO9Q : Hid (Own REnt 43 (fun q => q < w.heap.size) (w12.alloc (.cells [.slice p6 z2.params.length pc6, .string z2.result.elem, .string z2.result.shape.row, .slice t6 z2.result.shape.dims.length tc6, .slice q6 z2.wh.length qc6].toArray 41)) wc.heap.size (.slice a9 m9 c9) (x.entries.drop k).reverse) := Lib.hid (HO9.out.frame (fun q hq h => HKQ.out q hq (fun e => by rcases h with h | h; omega; exact HNx.out (by rw [← e]; exact h))) HZQ.out)
            have HO6Q : Hid (Own REnt 43 S3 (w12.alloc (.cells [.slice p6 z2.params.length pc6, .string z2.result.elem, .string z2.result.shape.row, .slice t6 z2.result.shape.dims.length tc6, .slice q6 z2.wh.length qc6].toArray 41)) wc.heap.size (.slice v6a v6m v6c) ((x.entries.drop (k + 1)).reverse.map fixE)) := Lib.hid ((HO69.out.frame (fun q hq h => HKQ.out q hq (fun e => by rcases h with h | h; have := (HAp.out q h).1; omega; have := (HB6.out q h).2; omega)) HZQ.out).mono (fun q hq _ => (HS3.out q).2 (.inl hq)))
            have HRQ := Lib.hid (fun (W : World) (hW : Below ((w12.alloc (.cells [.slice p6 z2.params.length pc6, .string z2.result.elem, .string z2.result.shape.row, .slice t6 z2.result.shape.dims.length tc6, .slice q6 z2.wh.length qc6].toArray 41))).heap.size (w12.alloc (.cells [.slice p6 z2.params.length pc6, .string z2.result.elem, .string z2.result.shape.row, .slice t6 z2.result.shape.dims.length tc6, .slice q6 z2.wh.length qc6].toArray 41)) W) => REnt.below HRy.out hW)
            have hzq := HZQ.out
            go_wp2_with (at_builtin; refine app_one elemEnt rfl _ _ rfl wc.heap.size _ _ rfl (HO6Q.out.alloc _) _ (fixE y) [.string y.name, .slice ap y.scheme.params.length cp, .string y.scheme.result.elem, .string y.scheme.result.shape.row, .slice at_ y.scheme.result.shape.dims.length ct, .slice aq y.scheme.wh.length cq] rfl (HRQ.out _ ((Below.refl _ _).alloc (Nat.le_refl _) _)) (cellsN 43 (by (simp only [drew_heap, alloc_heap, Array.getElem?_push, Array.size_push]; simp))) (by have := HL6.out; omega) (by have := HL6.out; unfold maxLen; omega) (by simp; omega) ?_; intro v14 w14 hown14 hb14 hk14; obtain ⟨a14, m14, c14, rfl⟩ := hown14.shape)
            change Kp (.slice v6a v6m v6c) _ _ w14 at hk14
            have hzW : ((w12.alloc (.cells [.slice p6 z2.params.length pc6, .string z2.result.elem, .string z2.result.shape.row, .slice t6 z2.result.shape.dims.length tc6, .slice q6 z2.wh.length qc6].toArray 41))).heap.size + 1 ≤ w14.heap.size := by have := hb14.size; simpa using this
            have HO5n : Hid (Own REnt 43 (fun q => q < w.heap.size) w14 wc.heap.size (.slice a9 m9 c9) (x.entries.drop k).reverse) := Lib.hid ((HO9Q.out.alloc _).frame (fun q hq h => hk14.block q hq (fun e => by
              rcases h with h | h
              · have := (HB6.out q e).1; omega
              · exact HDs9.out q e h)) hb14.size)
            have HApn : Hid (Apart S3 w14 (.slice a9 m9 c9)) := Lib.hid (fun q hq => by
              have h10 := HZ10.out
              rcases HA3.out q hq with h | h
              · exact ⟨by omega, h.2.2.1⟩
              · exact ⟨by have := (HAp9.out q h).1; omega, (HAp9.out q h).2⟩)
            have HDsn : Hid (∀ q, (Value.slice a14 m14 c14).ownBlock = some q → (Value.slice a9 m9 c9).ownBlock ≠ some q) := Lib.hid (fun q e e2 => by
              rcases hk14.own with r | r
              · rw [r] at e; exact HDs9.out q e e2
              · rw [r] at e
                have e3 := Option.some.inj e
                simp at e3
                have := (HB59.out q e2).2
                omega)
            have HBn : Hid (Below wc.heap.size wc w14) := Lib.hid ((HBw.out.alloc HBw.out.size _).trans hb14)
            go_roundw
            case measure => simp [intOf]
            exact ⟨k, _, S3, by omega, rfl, by go_num, HO5n, Lib.hid (by rw [← HRev6.out]; exact hown14), HApn, HDsn, HBn.out⟩
          | true =>
            cases h2 : (ce2 == 0) with
            | false =>
              have HFy : Hid (fixE y = y) := Lib.hid (fixE_no (by rw [HFb.out, h1, h2]; rfl))
              have HBQ := HB913
              have HZ10 : Hid (w10.heap.size ≤ ((w12.alloc (.cells [.slice p6 z2.params.length pc6, .string z2.result.elem, .string z2.result.shape.row, .slice t6 z2.result.shape.dims.length tc6, .slice q6 z2.wh.length qc6].toArray 41))).heap.size) := Lib.hid (by simp; omega)
              have HKQ : Hid (∀ q, q < w9.heap.size → q ≠ wr.heap.size → ((w12.alloc (.cells [.slice p6 z2.params.length pc6, .string z2.result.elem, .string z2.result.shape.row, .slice t6 z2.result.shape.dims.length tc6, .slice q6 z2.wh.length qc6].toArray 41))).heap[q]? = w9.heap[q]?) := Lib.hid (fun q hq _ => HBQ.out.block q hq)
              have HZQ : Hid (w9.heap.size ≤ ((w12.alloc (.cells [.slice p6 z2.params.length pc6, .string z2.result.elem, .string z2.result.shape.row, .slice t6 z2.result.shape.dims.length tc6, .slice q6 z2.wh.length qc6].toArray 41))).heap.size) := Lib.hid HBQ.out.size
              have HRy : Hid (REnt.rd (fun q => S3 q ∧ (Value.slice v6a v6m v6c).ownBlock ≠ some q) (w12.alloc (.cells [.slice p6 z2.params.length pc6, .string z2.result.elem, .string z2.result.shape.row, .slice t6 z2.result.shape.dims.length tc6, .slice q6 z2.wh.length qc6].toArray 41)) [.string y.name, .slice ap y.scheme.params.length cp, .string y.scheme.result.elem, .string y.scheme.result.shape.row, .slice at_ y.scheme.result.shape.dims.length ct, .slice aq y.scheme.wh.length cq] (fixE y)) := Lib.hid (by
                rw [HFy.out]
                exact REnt.below (REnt.mono HR9.out (fun q hq _ => ⟨(HS3.out q).2 (.inr (.inl hq)), fun e => by have := (HB6.out q e).1; omega⟩)) HBQ.out)
              have HBw : Hid (Below wc.heap.size wc (w12.alloc (.cells [.slice p6 z2.params.length pc6, .string z2.result.elem, .string z2.result.shape.row, .slice t6 z2.result.shape.dims.length tc6, .slice q6 z2.wh.length qc6].toArray 41))) := Lib.hid (HB9.out.trans (HBQ.out.mono (by omega)))
              have HO9Q : Hid (Own REnt 43 (fun q => q < w.heap.size) (w12.alloc (.cells [.slice p6 z2.params.length pc6, .string z2.result.elem, .string z2.result.shape.row, .slice t6 z2.result.shape.dims.length tc6, .slice q6 z2.wh.length qc6].toArray 41)) wc.heap.size (.slice a9 m9 c9) (x.entries.drop k).reverse) := Lib.hid (HO9.out.frame (fun q hq h => HKQ.out q hq (fun e => by rcases h with h | h; omega; exact HNx.out (by rw [← e]; exact h))) HZQ.out)
              have HO6Q : Hid (Own REnt 43 S3 (w12.alloc (.cells [.slice p6 z2.params.length pc6, .string z2.result.elem, .string z2.result.shape.row, .slice t6 z2.result.shape.dims.length tc6, .slice q6 z2.wh.length qc6].toArray 41)) wc.heap.size (.slice v6a v6m v6c) ((x.entries.drop (k + 1)).reverse.map fixE)) := Lib.hid ((HO69.out.frame (fun q hq h => HKQ.out q hq (fun e => by rcases h with h | h; have := (HAp.out q h).1; omega; have := (HB6.out q h).2; omega)) HZQ.out).mono (fun q hq _ => (HS3.out q).2 (.inl hq)))
              have HRQ := Lib.hid (fun (W : World) (hW : Below ((w12.alloc (.cells [.slice p6 z2.params.length pc6, .string z2.result.elem, .string z2.result.shape.row, .slice t6 z2.result.shape.dims.length tc6, .slice q6 z2.wh.length qc6].toArray 41))).heap.size (w12.alloc (.cells [.slice p6 z2.params.length pc6, .string z2.result.elem, .string z2.result.shape.row, .slice t6 z2.result.shape.dims.length tc6, .slice q6 z2.wh.length qc6].toArray 41)) W) => REnt.below HRy.out hW)
              have hzq := HZQ.out
              go_wp2_with (at_builtin; refine app_one elemEnt rfl _ _ rfl wc.heap.size _ _ rfl (HO6Q.out.alloc _) _ (fixE y) [.string y.name, .slice ap y.scheme.params.length cp, .string y.scheme.result.elem, .string y.scheme.result.shape.row, .slice at_ y.scheme.result.shape.dims.length ct, .slice aq y.scheme.wh.length cq] rfl (HRQ.out _ ((Below.refl _ _).alloc (Nat.le_refl _) _)) (cellsN 43 (by (simp only [drew_heap, alloc_heap, Array.getElem?_push, Array.size_push]; simp))) (by have := HL6.out; omega) (by have := HL6.out; unfold maxLen; omega) (by simp; omega) ?_; intro v14 w14 hown14 hb14 hk14; obtain ⟨a14, m14, c14, rfl⟩ := hown14.shape)
              change Kp (.slice v6a v6m v6c) _ _ w14 at hk14
              have hzW : ((w12.alloc (.cells [.slice p6 z2.params.length pc6, .string z2.result.elem, .string z2.result.shape.row, .slice t6 z2.result.shape.dims.length tc6, .slice q6 z2.wh.length qc6].toArray 41))).heap.size + 1 ≤ w14.heap.size := by have := hb14.size; simpa using this
              have HO5n : Hid (Own REnt 43 (fun q => q < w.heap.size) w14 wc.heap.size (.slice a9 m9 c9) (x.entries.drop k).reverse) := Lib.hid ((HO9Q.out.alloc _).frame (fun q hq h => hk14.block q hq (fun e => by
                rcases h with h | h
                · have := (HB6.out q e).1; omega
                · exact HDs9.out q e h)) hb14.size)
              have HApn : Hid (Apart S3 w14 (.slice a9 m9 c9)) := Lib.hid (fun q hq => by
                have h10 := HZ10.out
                rcases HA3.out q hq with h | h
                · exact ⟨by omega, h.2.2.1⟩
                · exact ⟨by have := (HAp9.out q h).1; omega, (HAp9.out q h).2⟩)
              have HDsn : Hid (∀ q, (Value.slice a14 m14 c14).ownBlock = some q → (Value.slice a9 m9 c9).ownBlock ≠ some q) := Lib.hid (fun q e e2 => by
                rcases hk14.own with r | r
                · rw [r] at e; exact HDs9.out q e e2
                · rw [r] at e
                  have e3 := Option.some.inj e
                  simp at e3
                  have := (HB59.out q e2).2
                  omega)
              have HBn : Hid (Below wc.heap.size wc w14) := Lib.hid ((HBw.out.alloc HBw.out.size _).trans hb14)
              go_roundw
              case measure => simp [intOf]
              exact ⟨k, _, S3, by omega, rfl, by go_num, HO5n, Lib.hid (by rw [← HRev6.out]; exact hown14), HApn, HDsn, HBn.out⟩
            | true =>
              have hz13 : ((w12.alloc (.cells [.slice p6 z2.params.length pc6, .string z2.result.elem, .string z2.result.shape.row, .slice t6 z2.result.shape.dims.length tc6, .slice q6 z2.wh.length qc6].toArray 41))).heap.size = w12.heap.size + 1 := by simp
              have HZ13 := Lib.hid hz13; clear hz13
              cases h3 : eqSch z z2 with
              | false =>
                have HFy : Hid (fixE y = y) := Lib.hid (fixE_no (by rw [HFb.out, h1, h2, h3]; rfl))
                rw [h3] at HCe
                go_wp2_with fail
                refine HCe.out.mono ?_
                rintro e w13 ⟨rfl, hb13⟩
                have HBQ : Hid (Below w9.heap.size w9 w13) := Lib.hid (HB913.out.trans (hb13.mono HB913.out.size))
                have HX14 := Lib.hid (HX13.out.below hb13 HX13.out.lt)
                have hz13 : w12.heap.size + 1 ≤ w13.heap.size := by have := hb13.size; rw [HZ13.out] at this; exact this
                clear x0 x1 x2 x3 x4 x5 g0 g1 g2 g3 g4 hb13; have x0 := HX14.out.cell 0 _ rfl; have x1 := HX14.out.cell 1 _ rfl; have x2 := HX14.out.cell 2 _ rfl; have x3 := HX14.out.cell 3 _ rfl; have x4 := HX14.out.cell 4 _ rfl; have x5 := HX14.out.cell 5 _ rfl
                have HZ10 : Hid (w10.heap.size ≤ w13.heap.size) := Lib.hid (by omega)
                have HKQ : Hid (∀ q, q < w9.heap.size → q ≠ wr.heap.size → (w13).heap[q]? = w9.heap[q]?) := Lib.hid (fun q hq _ => HBQ.out.block q hq)
                have HZQ : Hid (w9.heap.size ≤ (w13).heap.size) := Lib.hid HBQ.out.size
                have HRy : Hid (REnt.rd (fun q => S3 q ∧ (Value.slice v6a v6m v6c).ownBlock ≠ some q) w13 [.string y.name, .slice ap y.scheme.params.length cp, .string y.scheme.result.elem, .string y.scheme.result.shape.row, .slice at_ y.scheme.result.shape.dims.length ct, .slice aq y.scheme.wh.length cq] (fixE y)) := Lib.hid (by
                  rw [HFy.out]
                  exact REnt.below (REnt.mono HR9.out (fun q hq _ => ⟨(HS3.out q).2 (.inr (.inl hq)), fun e => by have := (HB6.out q e).1; omega⟩)) HBQ.out)
                have HBw : Hid (Below wc.heap.size wc w13) := Lib.hid (HB9.out.trans (HBQ.out.mono (by omega)))
                have HO9Q : Hid (Own REnt 43 (fun q => q < w.heap.size) w13 wc.heap.size (.slice a9 m9 c9) (x.entries.drop k).reverse) := Lib.hid (HO9.out.frame (fun q hq h => HKQ.out q hq (fun e => by rcases h with h | h; omega; exact HNx.out (by rw [← e]; exact h))) HZQ.out)
                have HO6Q : Hid (Own REnt 43 S3 w13 wc.heap.size (.slice v6a v6m v6c) ((x.entries.drop (k + 1)).reverse.map fixE)) := Lib.hid ((HO69.out.frame (fun q hq h => HKQ.out q hq (fun e => by rcases h with h | h; have := (HAp.out q h).1; omega; have := (HB6.out q h).2; omega)) HZQ.out).mono (fun q hq _ => (HS3.out q).2 (.inl hq)))
                have HRQ := Lib.hid (fun (W : World) (hW : Below (w13).heap.size w13 W) => REnt.below HRy.out hW)
                have hzq := HZQ.out
                go_wp2_with (at_builtin; refine app_one elemEnt rfl _ _ rfl wc.heap.size _ _ rfl (HO6Q.out.alloc _) _ (fixE y) [.string y.name, .slice ap y.scheme.params.length cp, .string y.scheme.result.elem, .string y.scheme.result.shape.row, .slice at_ y.scheme.result.shape.dims.length ct, .slice aq y.scheme.wh.length cq] rfl (HRQ.out _ ((Below.refl _ _).alloc (Nat.le_refl _) _)) (cellsN 43 (by (simp only [drew_heap, alloc_heap, Array.getElem?_push, Array.size_push]; simp))) (by have := HL6.out; omega) (by have := HL6.out; unfold maxLen; omega) (by simp; omega) ?_; intro v14 w14 hown14 hb14 hk14; obtain ⟨a14, m14, c14, rfl⟩ := hown14.shape)
                change Kp (.slice v6a v6m v6c) _ _ w14 at hk14
                have hzW : (w13).heap.size + 1 ≤ w14.heap.size := by have := hb14.size; simpa using this
                have HO5n : Hid (Own REnt 43 (fun q => q < w.heap.size) w14 wc.heap.size (.slice a9 m9 c9) (x.entries.drop k).reverse) := Lib.hid ((HO9Q.out.alloc _).frame (fun q hq h => hk14.block q hq (fun e => by
                  rcases h with h | h
                  · have := (HB6.out q e).1; omega
                  · exact HDs9.out q e h)) hb14.size)
                have HApn : Hid (Apart S3 w14 (.slice a9 m9 c9)) := Lib.hid (fun q hq => by
                  have h10 := HZ10.out
                  rcases HA3.out q hq with h | h
                  · exact ⟨by omega, h.2.2.1⟩
                  · exact ⟨by have := (HAp9.out q h).1; omega, (HAp9.out q h).2⟩)
                have HDsn : Hid (∀ q, (Value.slice a14 m14 c14).ownBlock = some q → (Value.slice a9 m9 c9).ownBlock ≠ some q) := Lib.hid (fun q e e2 => by
                  rcases hk14.own with r | r
                  · rw [r] at e; exact HDs9.out q e e2
                  · rw [r] at e
                    have e3 := Option.some.inj e
                    simp at e3
                    have := (HB59.out q e2).2
                    omega)
                have HBn : Hid (Below wc.heap.size wc w14) := Lib.hid ((HBw.out.alloc HBw.out.size _).trans hb14)
                go_roundw
                case measure => simp [intOf]
                exact ⟨k, _, S3, by omega, rfl, by go_num, HO5n, Lib.hid (by rw [← HRev6.out]; exact hown14), HApn, HDsn, HBn.out⟩
              | true =>
                have HFy : Hid (fixE y = ⟨y.name, z⟩) := Lib.hid (by
                  rw [fixE_yes (by rw [HFb.out, h1, h2, h3]; rfl), HZc.out])
                rw [h3] at HCe
                go_wp2_with fail
                refine HCe.out.mono ?_
                rintro e w13 ⟨rfl, hb13⟩
                have HB9w : Hid (Below w9.heap.size w9 w13) := Lib.hid (HB913.out.trans (hb13.mono HB913.out.size))
                have hz13 : w12.heap.size + 1 ≤ w13.heap.size := by have := hb13.size; rw [HZ13.out] at this; exact this
                have HB10w : Hid (Below w10.heap.size w10 w13) := Lib.hid ((HB12.out.trans (HA13.out.mono (by omega))).trans (hb13.mono (by rw [HZ13.out]; omega)))
                have HX14 := Lib.hid (HX13.out.below hb13 HX13.out.lt); have HG14 := Lib.hid (HG13.out.below hb13 HG13.out.lt); clear x0 x1 x2 x3 x4 x5 g0 g1 g2 g3 g4 hb13; have x0 := HX14.out.cell 0 _ rfl; have x1 := HX14.out.cell 1 _ rfl; have x2 := HX14.out.cell 2 _ rfl; have x3 := HX14.out.cell 3 _ rfl; have x4 := HX14.out.cell 4 _ rfl; have x5 := HX14.out.cell 5 _ rfl; have g0 := HG14.out.cell 0 _ rfl; have g1 := HG14.out.cell 1 _ rfl; have g2 := HG14.out.cell 2 _ rfl; have g3 := HG14.out.cell 3 _ rfl; have g4 := HG14.out.cell 4 _ rfl; have f1 := HX14.out.fz 1; have f2 := HX14.out.fz 2; have f3 := HX14.out.fz 3; have f4 := HX14.out.fz 4; have f5 := HX14.out.fz 5
                have HXQ : Hid (Bx ((((((w13.setCell ⟨wr.heap.size, 1, none⟩ (.slice p5 z.params.length pc5)).setCell ⟨wr.heap.size, 2, none⟩ (.string z.result.elem)).setCell ⟨wr.heap.size, 3, none⟩ (.string z.result.shape.row)).setCell ⟨wr.heap.size, 4, none⟩ (.slice t5 z.result.shape.dims.length tc5)).setCell ⟨wr.heap.size, 5, none⟩ (.slice q5 z.wh.length qc5))) wr.heap.size 43 [.string y.name, .slice p5 z.params.length pc5, .string z.result.elem, .string z.result.shape.row, .slice t5 z.result.shape.dims.length tc5, .slice q5 z.wh.length qc5]) := Lib.hid (((((HX14.out.set 1 (.slice p5 z.params.length pc5)).set 2 (.string z.result.elem)).set 3 (.string z.result.shape.row)).set 4 (.slice t5 z.result.shape.dims.length tc5)).set 5 (.slice q5 z.wh.length qc5))
                have X0 := HXQ.out.cell 0 _ rfl; have X1 := HXQ.out.cell 1 _ rfl; have X2 := HXQ.out.cell 2 _ rfl; have X3 := HXQ.out.cell 3 _ rfl; have X4 := HXQ.out.cell 4 _ rfl; have X5 := HXQ.out.cell 5 _ rfl
                have hzs : ((((((w13.setCell ⟨wr.heap.size, 1, none⟩ (.slice p5 z.params.length pc5)).setCell ⟨wr.heap.size, 2, none⟩ (.string z.result.elem)).setCell ⟨wr.heap.size, 3, none⟩ (.string z.result.shape.row)).setCell ⟨wr.heap.size, 4, none⟩ (.slice t5 z.result.shape.dims.length tc5)).setCell ⟨wr.heap.size, 5, none⟩ (.slice q5 z.wh.length qc5))).heap.size = w13.heap.size := by simp
                have HZs := Lib.hid hzs; clear hzs
                have HZ10 : Hid (w10.heap.size ≤ ((((((w13.setCell ⟨wr.heap.size, 1, none⟩ (.slice p5 z.params.length pc5)).setCell ⟨wr.heap.size, 2, none⟩ (.string z.result.elem)).setCell ⟨wr.heap.size, 3, none⟩ (.string z.result.shape.row)).setCell ⟨wr.heap.size, 4, none⟩ (.slice t5 z.result.shape.dims.length tc5)).setCell ⟨wr.heap.size, 5, none⟩ (.slice q5 z.wh.length qc5))).heap.size) := Lib.hid (by rw [HZs.out]; omega)
                have HKQ : Hid (∀ q, q < w9.heap.size → q ≠ wr.heap.size → ((((((w13.setCell ⟨wr.heap.size, 1, none⟩ (.slice p5 z.params.length pc5)).setCell ⟨wr.heap.size, 2, none⟩ (.string z.result.elem)).setCell ⟨wr.heap.size, 3, none⟩ (.string z.result.shape.row)).setCell ⟨wr.heap.size, 4, none⟩ (.slice t5 z.result.shape.dims.length tc5)).setCell ⟨wr.heap.size, 5, none⟩ (.slice q5 z.wh.length qc5))).heap[q]? = w9.heap[q]?) := Lib.hid (fun q hq hne => (heap_set5 hne).trans (HB9w.out.block q hq))
                have HZQ : Hid (w9.heap.size ≤ ((((((w13.setCell ⟨wr.heap.size, 1, none⟩ (.slice p5 z.params.length pc5)).setCell ⟨wr.heap.size, 2, none⟩ (.string z.result.elem)).setCell ⟨wr.heap.size, 3, none⟩ (.string z.result.shape.row)).setCell ⟨wr.heap.size, 4, none⟩ (.slice t5 z.result.shape.dims.length tc5)).setCell ⟨wr.heap.size, 5, none⟩ (.slice q5 z.wh.length qc5))).heap.size) := Lib.hid (by rw [HZs.out]; exact HB9w.out.size)
                have HBw : Hid (Below wc.heap.size wc (((((w13.setCell ⟨wr.heap.size, 1, none⟩ (.slice p5 z.params.length pc5)).setCell ⟨wr.heap.size, 2, none⟩ (.string z.result.elem)).setCell ⟨wr.heap.size, 3, none⟩ (.string z.result.shape.row)).setCell ⟨wr.heap.size, 4, none⟩ (.slice t5 z.result.shape.dims.length tc5)).setCell ⟨wr.heap.size, 5, none⟩ (.slice q5 z.wh.length qc5))) := Lib.hid (below_set5 (HB9.out.trans (HB9w.out.mono (by omega))) (by omega))
                have HRy : Hid (REnt.rd (fun q => S3 q ∧ (Value.slice v6a v6m v6c).ownBlock ≠ some q) (((((w13.setCell ⟨wr.heap.size, 1, none⟩ (.slice p5 z.params.length pc5)).setCell ⟨wr.heap.size, 2, none⟩ (.string z.result.elem)).setCell ⟨wr.heap.size, 3, none⟩ (.string z.result.shape.row)).setCell ⟨wr.heap.size, 4, none⟩ (.slice t5 z.result.shape.dims.length tc5)).setCell ⟨wr.heap.size, 5, none⟩ (.slice q5 z.wh.length qc5)) [.string y.name, .slice p5 z.params.length pc5, .string z.result.elem, .string z.result.shape.row, .slice t5 z.result.shape.dims.length tc5, .slice q5 z.wh.length qc5] (fixE y)) := Lib.hid (by
                  rw [HFy.out]
                  refine ⟨_, rfl, RSch.frame (RSch.mono HDS.out (S' := fun q => (S3 q ∧ (Value.slice v6a v6m v6c).ownBlock ≠ some q) ∧ q ≠ wr.heap.size) (fun q hq hlt2 => ⟨⟨(HS3.out q).2 (.inr (.inr ⟨hq, hlt2⟩)), fun e => by have := (HB6.out q e).2; have hq : w9.heap.size ≤ q := hq; omega⟩, by have hq : w9.heap.size ≤ q := hq; omega⟩)) (fun q hq hlt2 => (heap_set5 hq.2).trans (HB10w.out.block q hlt2)) |> fun h => RSch.mono h (fun q hq _ => hq.1)⟩)
                have HO9Q : Hid (Own REnt 43 (fun q => q < w.heap.size) (((((w13.setCell ⟨wr.heap.size, 1, none⟩ (.slice p5 z.params.length pc5)).setCell ⟨wr.heap.size, 2, none⟩ (.string z.result.elem)).setCell ⟨wr.heap.size, 3, none⟩ (.string z.result.shape.row)).setCell ⟨wr.heap.size, 4, none⟩ (.slice t5 z.result.shape.dims.length tc5)).setCell ⟨wr.heap.size, 5, none⟩ (.slice q5 z.wh.length qc5)) wc.heap.size (.slice a9 m9 c9) (x.entries.drop k).reverse) := Lib.hid (HO9.out.frame (fun q hq h => HKQ.out q hq (fun e => by rcases h with h | h; omega; exact HNx.out (by rw [← e]; exact h))) HZQ.out)
                have HO6Q : Hid (Own REnt 43 S3 (((((w13.setCell ⟨wr.heap.size, 1, none⟩ (.slice p5 z.params.length pc5)).setCell ⟨wr.heap.size, 2, none⟩ (.string z.result.elem)).setCell ⟨wr.heap.size, 3, none⟩ (.string z.result.shape.row)).setCell ⟨wr.heap.size, 4, none⟩ (.slice t5 z.result.shape.dims.length tc5)).setCell ⟨wr.heap.size, 5, none⟩ (.slice q5 z.wh.length qc5)) wc.heap.size (.slice v6a v6m v6c) ((x.entries.drop (k + 1)).reverse.map fixE)) := Lib.hid ((HO69.out.frame (fun q hq h => HKQ.out q hq (fun e => by rcases h with h | h; have := (HAp.out q h).1; omega; have := (HB6.out q h).2; omega)) HZQ.out).mono (fun q hq _ => (HS3.out q).2 (.inl hq)))
                have HRQ := Lib.hid (fun (W : World) (hW : Below ((((((w13.setCell ⟨wr.heap.size, 1, none⟩ (.slice p5 z.params.length pc5)).setCell ⟨wr.heap.size, 2, none⟩ (.string z.result.elem)).setCell ⟨wr.heap.size, 3, none⟩ (.string z.result.shape.row)).setCell ⟨wr.heap.size, 4, none⟩ (.slice t5 z.result.shape.dims.length tc5)).setCell ⟨wr.heap.size, 5, none⟩ (.slice q5 z.wh.length qc5))).heap.size (((((w13.setCell ⟨wr.heap.size, 1, none⟩ (.slice p5 z.params.length pc5)).setCell ⟨wr.heap.size, 2, none⟩ (.string z.result.elem)).setCell ⟨wr.heap.size, 3, none⟩ (.string z.result.shape.row)).setCell ⟨wr.heap.size, 4, none⟩ (.slice t5 z.result.shape.dims.length tc5)).setCell ⟨wr.heap.size, 5, none⟩ (.slice q5 z.wh.length qc5)) W) => REnt.below HRy.out hW)
                have hzq := HZQ.out
                go_wp2_with (at_builtin; refine app_one elemEnt rfl _ _ rfl wc.heap.size _ _ rfl (HO6Q.out.alloc _) _ (fixE y) [.string y.name, .slice p5 z.params.length pc5, .string z.result.elem, .string z.result.shape.row, .slice t5 z.result.shape.dims.length tc5, .slice q5 z.wh.length qc5] rfl (HRQ.out _ ((Below.refl _ _).alloc (Nat.le_refl _) _)) (cellsN 43 (by (simp only [drew_heap, alloc_heap, Array.getElem?_push, Array.size_push]; simp))) (by have := HL6.out; omega) (by have := HL6.out; unfold maxLen; omega) (by simp; omega) ?_; intro v14 w14 hown14 hb14 hk14; obtain ⟨a14, m14, c14, rfl⟩ := hown14.shape)
                change Kp (.slice v6a v6m v6c) _ _ w14 at hk14
                have hzW : ((((((w13.setCell ⟨wr.heap.size, 1, none⟩ (.slice p5 z.params.length pc5)).setCell ⟨wr.heap.size, 2, none⟩ (.string z.result.elem)).setCell ⟨wr.heap.size, 3, none⟩ (.string z.result.shape.row)).setCell ⟨wr.heap.size, 4, none⟩ (.slice t5 z.result.shape.dims.length tc5)).setCell ⟨wr.heap.size, 5, none⟩ (.slice q5 z.wh.length qc5))).heap.size + 1 ≤ w14.heap.size := by have := hb14.size; simpa using this
                have HO5n : Hid (Own REnt 43 (fun q => q < w.heap.size) w14 wc.heap.size (.slice a9 m9 c9) (x.entries.drop k).reverse) := Lib.hid ((HO9Q.out.alloc _).frame (fun q hq h => hk14.block q hq (fun e => by
                  rcases h with h | h
                  · have := (HB6.out q e).1; omega
                  · exact HDs9.out q e h)) hb14.size)
                have HApn : Hid (Apart S3 w14 (.slice a9 m9 c9)) := Lib.hid (fun q hq => by
                  have h10 := HZ10.out
                  rcases HA3.out q hq with h | h
                  · exact ⟨by omega, h.2.2.1⟩
                  · exact ⟨by have := (HAp9.out q h).1; omega, (HAp9.out q h).2⟩)
                have HDsn : Hid (∀ q, (Value.slice a14 m14 c14).ownBlock = some q → (Value.slice a9 m9 c9).ownBlock ≠ some q) := Lib.hid (fun q e e2 => by
                  rcases hk14.own with r | r
                  · rw [r] at e; exact HDs9.out q e e2
                  · rw [r] at e
                    have e3 := Option.some.inj e
                    simp at e3
                    have := (HB59.out q e2).2
                    omega)
                have HBn : Hid (Below wc.heap.size wc w14) := Lib.hid ((HBw.out.alloc HBw.out.size _).trans hb14)
                go_roundw
                case measure => simp [intOf]
                exact ⟨k, _, S3, by omega, rfl, by go_num, HO5n, Lib.hid (by rw [← HRev6.out]; exact hown14), HApn, HDsn, HBn.out⟩
end Go.Proofs.YtjongcdlginjlaaGreatDoor
namespace Go.Proofs.YtjongcdlginjlaaGreatDoor
open Go.RowKit Go.ChangeShapes Go.WideShapes Go.Deep
section
variable {H : Type} {enc : TypeId × Value → H} {w : World} {base : Nat} {spare : Nat → Bool} {held : Bool}
theorem bulk_part {d : DataW H} {l : List (DataW H)} (h : d ∈ l) : Rows.uptoBulk d ≤ Rows.uptoBulkAll l := by
  induction l with
  | nil => cases h
  | cons x r ih =>
    simp only [Rows.uptoBulkAll]
    cases List.mem_cons.1 h with
    | inl e => subst e; omega
    | inr e => have := ih e; omega
theorem bulk_two : ∀ (l : List (DataW H)), (∀ d ∈ l, 2 ≤ Rows.uptoBulk d) → l.length * 2 ≤ Rows.uptoBulkAll l
  | [], _ => Nat.zero_le _
  | d :: l, h => by
    have h1 := h d (List.mem_cons_self ..)
    have h2 := bulk_two l (fun x hx => h x (List.mem_cons_of_mem _ hx))
    simp only [Rows.uptoBulkAll, List.length_cons]
    omega
theorem bulk_slice (elems spare : List (DataW H)) : Rows.uptoBulkAll elems ≤ Rows.uptoBulk (.slice elems spare) := by simp only [Rows.uptoBulk]; omega
theorem bulk_agg (parts : List (DataW H)) : Rows.uptoBulkAll parts ≤ Rows.uptoBulk (.agg parts) := by simp only [Rows.uptoBulk]; omega
theorem pickL {α : Type} [Inhabited α] : ∀ (n : Nat) (P : Nat → α → Prop), (∀ i, i < n → ∃ y, P i y) → ∃ l : List α, l.length = n ∧ ∀ i y, l[i]? = some y → P i y
  | 0, P, _ => ⟨[], rfl, fun i y h => by simp at h⟩
  | n + 1, P, h => by
    obtain ⟨y0, h0⟩ := h 0 (by omega)
    obtain ⟨l, hl, hp⟩ := pickL n (fun i y => P (i + 1) y) (fun i hi => h (i + 1) (by omega))
    refine ⟨y0 :: l, by rw [List.length_cons, hl], fun i y hy => ?_⟩
    cases i with
    | zero => simp at hy; subst hy; exact h0
    | succ i => exact hp i y (by simpa using hy)
theorem open_sl {α : Type} [Inhabited α] {R : Rep α} {Good : α → Prop} {t e : TypeId} {fuel : Nat} {cs : List Value} {x : DataW H × List MemPlace} {B : Nat} (ht : Tryz.prog.underlying t = some (.slice e)) (hC : Tryz.prog.cellsOf e = R.size)
    (step : ∀ (n : Nat) (cs' : List Value) (z : DataW H × List MemPlace), DataW.trod enc Tryz.prog w base spare held n e cs' = some z → Rows.uptoBulk z.1 ≤ B → (∃ y, R.rd All w cs' y ∧ Good y) ∧ 2 ≤ Rows.uptoBulk z.1)
    (h : DataW.trod enc Tryz.prog w base spare held fuel t cs = some x) (hB : Rows.uptoBulk x.1 ≤ B) :
    ∃ (a : Option Addr) (n c : Nat) (l : List α), cs = [.slice a n c] ∧ Sl R All w a n c l ∧ (∀ y ∈ l, Good y) ∧ l.length * 2 ≤ B := by
  rcases open_slice ht h with ⟨rfl, rfl⟩ | ⟨a, len, cap, m, n, D, Pl, rfl, hb, hl, hm, hmm, rfl, hi⟩
  · exact ⟨none, 0, 0, [], rfl, Sl.empty _ _ _, fun y hy => absurd hy (List.not_mem_nil), Nat.zero_le _⟩
  · have hle : len ≤ m := by rw [hmm]; split <;> omega
    have hbk := bulk_slice ((List.range len).map D) ((List.range (m - len)).map fun j => D (len + j))
    have hD : ∀ i, i < len → Rows.uptoBulk (D i) ≤ B := fun i hi' => Nat.le_trans (bulk_part (List.mem_map.2 ⟨i, List.mem_range.2 hi', rfl⟩)) (Nat.le_trans hbk hB)
    rw [hC] at hi
    have hstep : ∀ i, i < len → (∃ y cs', R.rd All w cs' y ∧ Good y ∧ ∀ j u, cs'[j]? = some u → w.cell? (a.add (i * R.size + j)) = some u) ∧ 2 ≤ Rows.uptoBulk (D i) := fun i hi' => by
      obtain ⟨cs', hcs, htr⟩ := hi i (by omega)
      obtain ⟨⟨y, hy, hg⟩, h2⟩ := step n cs' _ htr (hD i hi'); obtain ⟨_, hlen, hat⟩ := World.cells?_some hcs
      refine ⟨⟨y, cs', hy, hg, fun j u hu => ?_⟩, h2⟩
      have hj : j < R.size := by
        rcases Nat.lt_or_ge j cs'.length with q | q
        · omega
        · rw [List.getElem?_eq_none q] at hu; cases hu
      rw [← Go.Deep.add_add, hat j hj, hu]
    obtain ⟨l, hll, hp⟩ := pickL len (fun i y => ∃ cs', R.rd All w cs' y ∧ Good y ∧ ∀ j u, cs'[j]? = some u → w.cell? (a.add (i * R.size + j)) = some u) (fun i hi' => (hstep i hi').1)
    refine ⟨some a, len, cap, l, rfl, ⟨hll, hl, hm, by intro h; (cases h), fun i y hy => ?_⟩, fun y hy => ?_, ?_⟩
    · obtain ⟨cs', hr, hg, hc⟩ := hp i y hy
      have hlt : i < len := by
        rcases Nat.lt_or_ge i l.length with q | q
        · omega
        · rw [List.getElem?_eq_none q] at hy; cases hy
      obtain ⟨y0, cs0, hr0, _, hc0⟩ := (hstep 0 (by omega)).1
      have hl0 := R.len hr0; have hpos := R.pos
      have h00 := hc0 0 _ (List.getElem?_eq_getElem (show 0 < cs0.length by omega))
      rw [Nat.zero_mul, Nat.zero_add] at h00; obtain ⟨b, off, sp⟩ := a
      have hsp : sp = none := by
        cases sp with
        | none => rfl
        | some k =>
          have : w.cell? (Addr.add ⟨b, off, some k⟩ 0) = none := by
            show w.cell? ⟨b, off, some k⟩ = none
            unfold World.cell?
            cases w.heap[b]? with
            | none => rfl
            | some o => cases o <;> rfl
          rw [this] at h00; cases h00
      subst hsp
      exact ⟨b, off, cs', rfl, trivial, hr, fun j u hu => by have := hc j u hu; rwa [add_mk] at this⟩
    · obtain ⟨i, hi', rfl⟩ := List.getElem_of_mem hy
      obtain ⟨_, _, hg, _⟩ := hp i _ (List.getElem?_eq_getElem hi')
      exact hg
    · have h2 := bulk_two ((List.range len).map D) (fun d hd => by
        obtain ⟨i, hi', rfl⟩ := List.mem_map.1 hd
        exact (hstep i (List.mem_range.1 hi')).2)
      rw [List.length_map, List.length_range] at h2; have h3 := Nat.le_trans hbk hB
      omega
def gC (B : Nat) (y : Coef) : Prop := y.v.size ≤ B
def gL (B : Nat) (y : Lin) : Prop := ∀ t ∈ y.terms, gC B t
def gT (B : Nat) (y : Typ) : Prop := y.elem.size ≤ B ∧ y.shape.row.size ≤ B ∧ ∀ d ∈ y.shape.dims, gL B d
def gS (B : Nat) (y : Sch) : Prop := (∀ t ∈ y.params, gT B t) ∧ gT B y.result ∧ (∀ d ∈ y.wh, gL B d) ∧ y.params.length * 2 ≤ B
def gE (B : Nat) (y : Ent) : Prop := y.name.size ≤ B ∧ gS B y.scheme
theorem bulk_str {s : Str} : Rows.uptoBulk (DataW.lit (H := H) (.string s.data.toList)) = s.size + 1 := by
  simp [Rows.uptoBulk]
theorem open_coef {B n : Nat} {cs : List Value} {z : DataW H × List MemPlace} (h : DataW.trod enc Tryz.prog w base spare held n 62 cs = some z) (hB : Rows.uptoBulk z.1 ≤ B) : (∃ y, RCoef.rd All w cs y ∧ gC B y) ∧ 2 ≤ Rows.uptoBulk z.1 := by
  obtain ⟨xs, m, rfl, rfl, hl, hx, hf⟩ := DataW.trod_struct Tryz.underlying62 h; have h0 := hf 0 _ rfl; have h1 := hf 1 _ rfl
  obtain ⟨x0, x1, rfl⟩ : ∃ x0 x1, xs = [x0, x1] := by
    match xs, hx with
    | [x0, x1], _ => exact ⟨x0, x1, rfl⟩
  obtain ⟨c0, c1, rfl⟩ : ∃ c0 c1, cs = [c0, c1] := by
    have hl : cs.length = 2 := hl.trans (by kernel_rfl)
    match cs, hl with
    | [c0, c1], _ => exact ⟨c0, c1, rfl⟩
  obtain ⟨s, e0, rfl, hs⟩ := DataW.trod_string Tryz.underlying9 (show DataW.trod enc Tryz.prog w base spare held m 9 [c0] = some x0 from h0)
  obtain ⟨k, e1, rfl, hk⟩ := DataW.trod_int Tryz.underlying3 (show DataW.trod enc Tryz.prog w base spare held m 3 [c1] = some x1 from h1)
  cases e0
  cases e1
  have hb := bulk_agg ([(DataW.lit (.string s.data.toList) : DataW H), .lit (.int .i64 k)])
  have hq : Rows.uptoBulkAll ([(DataW.lit (.string s.data.toList) : DataW H), .lit (.int .i64 k)]) = s.size + 1 + (1 + 0) := by
    simp only [Rows.uptoBulkAll, bulk_str]; rfl
  have hB : Rows.uptoBulk (DataW.agg [(DataW.lit (.string s.data.toList) : DataW H), .lit (.int .i64 k)]) ≤ B := hB
  refine ⟨⟨⟨s, k⟩, rfl, by show s.size ≤ B; omega⟩, ?_⟩
  show 2 ≤ Rows.uptoBulk (DataW.agg [(DataW.lit (.string s.data.toList) : DataW H), .lit (.int .i64 k)])
  omega
theorem bulk_pos (d : DataW H) : 1 ≤ Rows.uptoBulk d := by
  cases d with
  | lit l => cases l <;> simp [Rows.uptoBulk]
  | nil => simp [Rows.uptoBulk]
  | ptr d => simp [Rows.uptoBulk]
  | slice elems spare => simp [Rows.uptoBulk]
  | agg parts => simp [Rows.uptoBulk]
  | iface t d => simp [Rows.uptoBulk]
  | map entries => simp [Rows.uptoBulk]
  | held h => simp [Rows.uptoBulk]
theorem agg_two (d : DataW H) (l : List (DataW H)) : 2 ≤ Rows.uptoBulk (.agg (d :: l)) := by
  have h := bulk_pos d
  simp only [Rows.uptoBulk, Rows.uptoBulkAll]
  omega
theorem agg_part {d : DataW H} {l : List (DataW H)} {B : Nat} (h : Rows.uptoBulk (.agg l) ≤ B) (hd : d ∈ l) : Rows.uptoBulk d ≤ B := Nat.le_trans (bulk_part hd) (Nat.le_trans (bulk_agg l) h)
theorem open_str {B m : Nat} {c : Value} {x : DataW H × List MemPlace} (h : DataW.trod enc Tryz.prog w base spare held m 9 [c] = some x) (hB : Rows.uptoBulk x.1 ≤ B) : ∃ s : Str, c = .string s ∧ s.size ≤ B := by
  obtain ⟨s, e0, rfl, hs⟩ := DataW.trod_string Tryz.underlying9 h
  cases e0
  have hB : Rows.uptoBulk (DataW.lit (H := H) (.string s.data.toList)) ≤ B := hB
  rw [bulk_str] at hB
  exact ⟨s, rfl, by omega⟩
theorem two_of {α : Type} {l : List α} (h : l.length = 2) : ∃ a b, l = [a, b] := by
  match l, h with
  | [a, b], _ => exact ⟨a, b, rfl⟩
theorem three_of {α : Type} {l : List α} (h : l.length = 3) : ∃ a b c, l = [a, b, c] := by
  match l, h with
  | [a, b, c], _ => exact ⟨a, b, c, rfl⟩
theorem five_of {α : Type} {l : List α} (h : l.length = 5) : ∃ a b c d e, l = [a, b, c, d, e] := by
  match l, h with
  | [a, b, c, d, e], _ => exact ⟨a, b, c, d, e, rfl⟩
theorem six_of {α : Type} {l : List α} (h : l.length = 6) : ∃ a b c d e f, l = [a, b, c, d, e, f] := by
  match l, h with
  | [a, b, c, d, e, f], _ => exact ⟨a, b, c, d, e, f, rfl⟩
theorem open_lin {B n : Nat} {cs : List Value} {z : DataW H × List MemPlace} (h : DataW.trod enc Tryz.prog w base spare held n 65 cs = some z) (hB : Rows.uptoBulk z.1 ≤ B) : (∃ y, RLin.rd All w cs y ∧ gL B y) ∧ 2 ≤ Rows.uptoBulk z.1 := by
  obtain ⟨xs, m, rfl, rfl, hl, hx, hf⟩ := DataW.trod_struct Tryz.underlying65 h; obtain ⟨x0, x1, rfl⟩ := two_of hx
  obtain ⟨c0, c1, rfl⟩ := two_of (hl.trans (by kernel_rfl))
  have hB : Rows.uptoBulk (.agg [x0.1, x1.1]) ≤ B := hB
  obtain ⟨k, e0, _, _⟩ := DataW.trod_int Tryz.underlying3 (show DataW.trod enc Tryz.prog w base spare held m 3 [c0] = some x0 from hf 0 _ rfl)
  cases e0
  obtain ⟨a, n, c, l, e1, hs, hg, _⟩ := open_sl (R := RCoef) (Good := gC B) Tryz.underlying63 (by kernel_rfl) (fun n cs' z h hb => open_coef h hb) (show DataW.trod enc Tryz.prog w base spare held m 63 [c1] = some x1 from hf 1 _ rfl) (agg_part hB (by simp))
  cases e1
  obtain rfl := hs.len
  exact ⟨⟨⟨k, l⟩, ⟨_, rfl, a, c, rfl, hs⟩, hg⟩, agg_two _ _⟩
theorem open_shp {B n : Nat} {cs : List Value} {z : DataW H × List MemPlace} (h : DataW.trod enc Tryz.prog w base spare held n 37 cs = some z) (hB : Rows.uptoBulk z.1 ≤ B) : ∃ y : Shp, RShp.rd All w cs y ∧ y.row.size ≤ B ∧ ∀ d ∈ y.dims, gL B d := by
  obtain ⟨xs, m, rfl, rfl, hl, hx, hf⟩ := DataW.trod_struct Tryz.underlying37 h; obtain ⟨x0, x1, rfl⟩ := two_of hx
  obtain ⟨c0, c1, rfl⟩ := two_of (hl.trans (by kernel_rfl))
  have hB : Rows.uptoBulk (.agg [x0.1, x1.1]) ≤ B := hB
  obtain ⟨s, rfl, hs0⟩ := open_str (show DataW.trod enc Tryz.prog w base spare held m 9 [c0] = some x0 from hf 0 _ rfl) (agg_part hB (by simp))
  obtain ⟨a, n, c, l, e1, hs, hg, _⟩ := open_sl (R := RLin) (Good := gL B) Tryz.underlying35 (by kernel_rfl) (fun n cs' z h hb => open_lin h hb) (show DataW.trod enc Tryz.prog w base spare held m 35 [c1] = some x1 from hf 1 _ rfl) (agg_part hB (by simp))
  cases e1
  obtain rfl := hs.len
  exact ⟨⟨s, l⟩, ⟨_, rfl, a, c, rfl, hs⟩, hs0, hg⟩
theorem open_typ {B n : Nat} {cs : List Value} {z : DataW H × List MemPlace} (h : DataW.trod enc Tryz.prog w base spare held n 39 cs = some z) (hB : Rows.uptoBulk z.1 ≤ B) : (∃ y, RTyp.rd All w cs y ∧ gT B y) ∧ 2 ≤ Rows.uptoBulk z.1 := by
  obtain ⟨xs, m, rfl, rfl, hl, hx, hf⟩ := DataW.trod_struct Tryz.underlying39 h; obtain ⟨x0, x1, rfl⟩ := two_of hx
  obtain ⟨c0, c1, c2, rfl⟩ := three_of (hl.trans (by kernel_rfl))
  have hB : Rows.uptoBulk (.agg [x0.1, x1.1]) ≤ B := hB
  obtain ⟨s, rfl, hs0⟩ := open_str (show DataW.trod enc Tryz.prog w base spare held m 9 [c0] = some x0 from hf 0 _ rfl) (agg_part hB (by simp))
  have h1 := hf 1 _ rfl
  obtain ⟨y, ⟨t, e, ht⟩, hy1, hy2⟩ := open_shp (show DataW.trod enc Tryz.prog w base spare held m 37 [c1, c2] = some x1 from h1) (agg_part hB (by simp))
  cases e
  exact ⟨⟨⟨s, y⟩, ⟨_, rfl, ht⟩, hs0, hy1, hy2⟩, agg_two _ _⟩
theorem open_sch {B n : Nat} {cs : List Value} {z : DataW H × List MemPlace} (h : DataW.trod enc Tryz.prog w base spare held n 41 cs = some z) (hB : Rows.uptoBulk z.1 ≤ B) : ∃ y, RSch.rd All w cs y ∧ gS B y := by
  obtain ⟨xs, m, rfl, rfl, hl, hx, hf⟩ := DataW.trod_struct Tryz.underlying41 h; obtain ⟨x0, x1, x2, rfl⟩ := three_of hx
  obtain ⟨c0, c1, c2, c3, c4, rfl⟩ := five_of (hl.trans (by kernel_rfl))
  have hB : Rows.uptoBulk (.agg [x0.1, x1.1, x2.1]) ≤ B := hB
  obtain ⟨a, n, c, l, e1, hs, hg, hln⟩ := open_sl (R := RTyp) (Good := gT B) Tryz.underlying34 (by kernel_rfl) (fun n cs' z h hb => open_typ h hb) (show DataW.trod enc Tryz.prog w base spare held m 34 [c0] = some x0 from hf 0 _ rfl) (agg_part hB (by simp))
  cases e1
  obtain rfl := hs.len; have h1 := hf 1 _ rfl
  obtain ⟨⟨y, ⟨t, e, ht⟩, hy⟩, _⟩ := open_typ (show DataW.trod enc Tryz.prog w base spare held m 39 [c1, c2, c3] = some x1 from h1) (agg_part hB (by simp))
  cases e
  obtain ⟨a2, n2, c5, l2, e2, hs2, hg2, _⟩ := open_sl (R := RLin) (Good := gL B) Tryz.underlying35 (by kernel_rfl) (fun n cs' z h hb => open_lin h hb) (show DataW.trod enc Tryz.prog w base spare held m 35 [c4] = some x2 from hf 2 _ rfl) (agg_part hB (by simp))
  cases e2
  obtain rfl := hs2.len
  exact ⟨⟨l, y, l2⟩, ⟨_, _, _, rfl, ⟨a, c, rfl, hs⟩, ht, ⟨a2, c5, rfl, hs2⟩⟩, hg, hy, hg2, hln⟩
theorem open_ent {B n : Nat} {cs : List Value} {z : DataW H × List MemPlace} (h : DataW.trod enc Tryz.prog w base spare held n 44 cs = some z) (hB : Rows.uptoBulk z.1 ≤ B) : (∃ y, REnt.rd All w cs y ∧ gE B y) ∧ 2 ≤ Rows.uptoBulk z.1 := by
  obtain ⟨xs, m, rfl, rfl, hl, hx, hf⟩ := DataW.trod_struct Tryz.underlying44 h; obtain ⟨x0, x1, rfl⟩ := two_of hx
  obtain ⟨c0, c1, c2, c3, c4, c5, rfl⟩ := six_of (hl.trans (by kernel_rfl))
  have hB : Rows.uptoBulk (.agg [x0.1, x1.1]) ≤ B := hB
  obtain ⟨s, rfl, hs0⟩ := open_str (show DataW.trod enc Tryz.prog w base spare held m 9 [c0] = some x0 from hf 0 _ rfl) (agg_part hB (by simp))
  have h1 := hf 1 _ rfl
  obtain ⟨y, hy, hg⟩ := open_sch (show DataW.trod enc Tryz.prog w base spare held m 41 [c1, c2, c3, c4, c5] = some x1 from h1) (agg_part hB (by simp))
  exact ⟨⟨⟨s, y⟩, ⟨_, rfl, hy⟩, hs0, hg⟩, agg_two _ _⟩
theorem open_ifc {B n : Nat} {cs : List Value} {z : DataW H × List MemPlace} (h : DataW.trod enc Tryz.prog w base spare held n 24 cs = some z) (hB : Rows.uptoBulk z.1 ≤ B) : ∃ (i : Ifc) (a : Option Addr) (k c : Nat), cs = [.string i.module_, .slice a k c] ∧ Sl REnt All w a k c i.entries ∧ i.module_.size ≤ B ∧ ∀ e ∈ i.entries, gE B e := by
  obtain ⟨xs, m, rfl, rfl, hl, hx, hf⟩ := DataW.trod_struct Tryz.underlying24 h; obtain ⟨x0, x1, rfl⟩ := two_of hx
  obtain ⟨c0, c1, rfl⟩ := two_of (hl.trans (by kernel_rfl))
  have hB : Rows.uptoBulk (.agg [x0.1, x1.1]) ≤ B := hB
  obtain ⟨s, rfl, hs0⟩ := open_str (show DataW.trod enc Tryz.prog w base spare held m 9 [c0] = some x0 from hf 0 _ rfl) (agg_part hB (by simp))
  obtain ⟨a, n, c, l, e1, hs, hg, _⟩ := open_sl (R := REnt) (Good := gE B) Tryz.underlying22 (by kernel_rfl) (fun n cs' z h hb => open_ent h hb) (show DataW.trod enc Tryz.prog w base spare held m 22 [c1] = some x1 from hf 1 _ rfl) (agg_part hB (by simp))
  cases e1
  exact ⟨⟨s, l⟩, a, n, c, rfl, hs, hs0, hg⟩
theorem gL_big {B : Nat} (hB : B ≤ 2000000) {y : Lin} (h : gL B y) : bigL y ∧ szL y := ⟨fun t ht => Nat.le_trans (h t ht) (by omega), fun t ht => Nat.le_trans (h t ht) hB⟩
theorem gE_big {B : Nat} (hB : B ≤ 2000000) {e : Ent} (h : gE B e) : bigE e ∧ ∀ y ∈ e.scheme.wh, szL y := by
  obtain ⟨h1, h2, h3, h4, h5⟩ := h
  have hT : ∀ t, gT B t → bigT t := fun t q => ⟨fun d hd => (gL_big hB (q.2.2 d hd)).1, Nat.le_trans q.2.1 (by omega), Nat.le_trans q.1 (by omega)⟩
  refine ⟨⟨⟨fun t ht => ?_, fun y hy => (gL_big hB (h4 y hy)).1, by omega⟩, Nat.le_trans h1 (by omega)⟩, fun y hy => (gL_big hB (h4 y hy)).2⟩
  unfold allT at ht
  rcases List.mem_append.1 ht with q | q
  · exact hT t (h2 t q)
  · rw [List.mem_singleton] at q; subst q; exact hT _ h3
end
end Go.Proofs.YtjongcdlginjlaaGreatDoor
namespace Go.Proofs.YtjongcdlginjlaaGreatDoor.signatureOrder
open Go.ChangeShapes Go.WideShapes Go.ChangeAt Go.RowKit
theorem own : ownKnob Tryz.prog.godebug = none := by kernel_rfl
theorem laidOut : laidOutB Tryz.prog = true := by kernel_rfl
theorem laid_one {W : World} {l : List (String × DataW Unit)} (name : String) {x : String × DataW Unit} (h : laidMetH Tryz.prog l W) (hf : l.filter (fun y => y.1 == name) = [x]) (hx : [x].filter (fun y => y.2.handleName?.isNone) = [x]) : laidMet Tryz.prog [x] W := by
  have h1 := h.filter (fun y => y.1 == name)
  rw [hf] at h1; have h2 := (laidMetH_iff.1 h1).1
  rwa [hx] at h2
theorem var_iface {W : World} {name tn : String} {d : DataW Unit} {g : Nat} {t : TypeId} {ms : Array (String × TypeId)} (hg : Tryz.prog.globalNamed name = some g) (hty : (Tryz.prog.globals[g]?).map (·.type) = some t) (ht : Tryz.prog.underlying t = some (.interface ms)) (h : laidMet Tryz.prog [(name, .iface tn d)] W) : ∃ tp p, World.var? Tryz.prog W name = some #[.iface tp p] := by
  obtain ⟨ps, ⟨g', t', cs, fuel, p, q, hg', ht', hvar, hd, _, _⟩, _⟩ := h; obtain rfl := Option.some.inj (hg.symm.trans hg'); obtain rfl := Option.some.inj (hty.symm.trans ht')
  have key : ∃ u v, cs.toList = [.iface u v] := by
    cases fuel with
    | zero => simp [DataW.trod] at hd
    | succ n =>
      unfold DataW.trod at hd
      rw [ht] at hd
      split at hd <;> simp_all
  obtain ⟨u, v, hc⟩ := key
  exact ⟨u, v, by rw [hvar, Array.eq_one_of_toList hc]⟩
theorem gTab : Tryz.prog.globalNamed "internal/strconv.uint64pow10" = some 1 := by kernel_rfl
theorem gTabType : (Tryz.prog.globals[1]?).map (·.type) = some 231 := by kernel_rfl
theorem cellsTab : Tryz.prog.cellsOf 231 = 20 := by kernel_rfl
theorem cellsU64 : Tryz.prog.cellsOf 181 = 1 := by kernel_rfl
theorem env_of {W : World} (hL : laidMetH Tryz.prog Rows.signatureOrderUptoRow.laid W) (hsh : W.ShapedOpen Tryz.prog) : Env W where
  sx := var_iface (g := 2) (tn := "*errors.errorString") (by kernel_rfl) (by kernel_rfl) Tryz.underlying187 (laid_one "strconv.ErrSyntax" hL (x := ("strconv.ErrSyntax", Rows.laid_strconv_ErrSyntax)) (by kernel_rfl) (by kernel_rfl))
  rg := var_iface (g := 3) (tn := "*errors.errorString") (by kernel_rfl) (by kernel_rfl) Tryz.underlying187 (laid_one "strconv.ErrRange" hL (x := ("strconv.ErrRange", Rows.laid_strconv_ErrRange)) (by kernel_rfl) (by kernel_rfl))
  ten := Lib.tabIs_of_head (rest := []) gTab gTabType Tryz.underlying231 Tryz.underlying181 cellsU64 cellsTab (laid_one "internal/strconv.uint64pow10" hL (x := ("internal/strconv.uint64pow10", Lib.tabData .u64 Lib.pow10Tab)) (by kernel_rfl) (by kernel_rfl))
  big := by
    have h7 : (((begin Tryz.prog (fun _ _ => 0) default).world.heap[7]?).bind Obj.row?).isSome = true := by kernel_rfl
    obtain ⟨⟨z, t⟩, e⟩ := Option.isSome_iff_exists.1 h7
    obtain ⟨cs, hc, _⟩ := hsh.1 7 z t (of_decide_eq_true (by kernel_rfl)) e
    rcases Nat.lt_or_ge 7 W.heap.size with q | q
    · omega
    · rw [Array.getElem?_eq_none q] at hc; cases hc
theorem contract (H : Type) (enc : TypeId × Value → H) (W : World) (base : Nat) (args : Array Value) (ds gs : List (DataW H)) (before : List MemPlace)
    (hval0 : ∀ (j : Nat) t v, Tryz.f3.params[j]? = some t → args[j]? = some v → Value.okWide Tryz.prog W .any base t v)
    (hW : DataW.Whole enc Tryz.prog Tryz.f3.params.toList Rows.signatureOrderSpec.vars false W args.toList ds gs before) (hk : Rows.uptoSmall H (ds ++ gs) = true) (hL : laidMetH Tryz.prog Rows.signatureOrderUptoRow.laid W) (hsh : W.ShapedOpen Tryz.prog) :
    Calls Tryz.prog 3 args W fun e W' => ∃ v, e = .returned v ∧ Rows.signatureOrderSpec.post enc Tryz.prog Tryz.f3 false true false false W args v W' := by
  have hval : ∀ (j : Nat) t v, Tryz.f3.params[j]? = some t → args[j]? = some v → Value.okWide Tryz.prog W .any base t v := hval0
  have hW' := hW; obtain ⟨p, q, hA0, hV, rfl, hfz, hnd⟩ := hW
  have hA : DataW.TrodAll enc Tryz.prog W 0 (fun _ => true) true Tryz.f3.params.toList args.toList ds p := hA0
  rw [Tryz.params3] at hA hval; obtain ⟨v0, vs0, d0, ds0, p0, q0, hargs, rfl, rfl, h0, r0⟩ := trodAll_cons hA; obtain ⟨rfl, rfl, rfl⟩ := trodAll_nil r0
  obtain rfl : args = #[v0] := by cases args; simp_all
  obtain ⟨rfl, rfl⟩ := trodVars_none hV; obtain ⟨cs, rfl, hcs⟩ := okWide_struct Tryz.underlying24 (hval 0 _ v0 rfl rfl); have k0 := h0
  have lt0 : ∀ x ∈ p0, x.block < W.heap.size := by obtain ⟨m, hm⟩ := k0; exact DataW.trod_lt m _ _ _ hm
  have hb : Rows.uptoBulk d0 ≤ 1048576 := by
    have h := of_decide_eq_true hk
    simp only [List.append_nil, Rows.uptoBulkAll] at h
    omega
  obtain ⟨fuel, hf⟩ := h0; obtain ⟨i, a, k, c, hc, hs, hm, hg⟩ := open_ifc hf hb
  have hc : cs.toList = [.string i.module_, .slice a k c] := hc
  obtain rfl : cs = #[.string i.module_, .slice a k c] := by cases cs; simp_all
  clear hA0 hval0
  refine (law57_Order hs (fun e he => (gE_big (by decide) (hg e he)).1) (Nat.le_trans hm (by decide)) (fun e he => (gE_big (by decide) (hg e he)).2) (env_of hL hsh)).mono fun e W' ⟨he, bel⟩ => ?_
  subst he
  exact ⟨_, rfl, _, _, _, [], _, [], hW', trodAll_mk1 (shut_bool Tryz.underlying4 _), (trodAll_cons_mk (Below.trod laidOut (by kernel_rfl) (of_decide_eq_true (by kernel_rfl)) k0 bel lt0) trodAll_mk0), rfl, bel.frame _, fun h => by cases h⟩
abbrev textR : ByteArray := { data := #[118, 97, 108, 117, 101, 32, 111, 117, 116, 32, 111, 102, 32, 114, 97, 110, 103, 101] }
abbrev textS : ByteArray := { data := #[105, 110, 118, 97, 108, 105, 100, 32, 115, 121, 110, 116, 97, 120] }
def leaf : DataW Unit → Value
  | .lit (.int k n) => .int k n
  | _ => .nilIface
def flat1 : DataW Unit → List Value
  | .agg ds => ds.map leaf
  | d => [leaf d]
def flat2 : DataW Unit → List Value
  | .agg ds => ds.flatMap flat1
  | d => [leaf d]
def layAt (g : Nat) (row : List Value) (h : Array Obj) : Array Obj := h.modify g fun
  | .cells _ t frozen => .cells row.toArray t frozen
  | o => o
noncomputable def low : Nat := (World.holding Tryz.prog default ⟨#[], #[], []⟩).heap.size
noncomputable def laidWorld (os : Os) : World :=
  let w0 := World.holding Tryz.prog os ⟨#[.cells #[.string textR] 269, .cells #[.string textS] 269], #[], []⟩
  { w0 with heap := layAt 4 (flat2 Rows.laid_math_bits_deBruijn32tab) (layAt 5 (flat2 Rows.laid_math_bits_deBruijn64tab) (layAt 1 (flat2 Rows.laid_internal_strconv_uint64pow10) (layAt 7 (flat2 Rows.laid_unicode_utf8_acceptRanges) (layAt 6 (flat2 Rows.laid_unicode_utf8_first)
      (layAt 3 [.iface 267 (.pointer (some ⟨low, 0, none⟩))] (layAt 2 [.iface 267 (.pointer (some ⟨low + 1, 0, none⟩))] w0.heap)))))) }
abbrev arg0 : Value := .agg #[.string ⟨#[]⟩, .slice none 0 0]
theorem laid_met (os : Os) : laidMet Tryz.prog Rows.signatureOrderUptoRow.laid ((laidWorld os).forCall (fun _ _ => 0) ⟨#[], #[arg0], []⟩).memory :=
  laidMet_of_run' 8 (by kernel_rfl) (by kernel_rfl)
theorem reads (os : Os) {H : Type} (enc : TypeId × Value → H) : ∃ places, DataW.whole enc Tryz.prog ((laidWorld os).forCall (fun _ _ => 0) ⟨#[], #[arg0], []⟩).memory Tryz.f3.params.toList Rows.signatureOrderSpec.vars false #[arg0].toList 8 = some ([.agg [.lit (.string []), .nil]], [], places) :=
  ⟨[], by kernel_rfl⟩
end Go.Proofs.YtjongcdlginjlaaGreatDoor.signatureOrder
namespace Go.Proofs.YtjongcdlginjlaaGreatDoor.signatureOrder
open Go.ChangeShapes Go.WideShapes Go.ChangeAt Go.RowKit
theorem laid_metH (os : Os) : laidMetH Tryz.prog Rows.signatureOrderUptoRow.laid ((laidWorld os).forCall (fun _ _ => 0) ⟨#[], #[arg0], []⟩).memory :=
  laidMetH_iff.2 ⟨by
    rw [show (Rows.signatureOrderUptoRow.laid.filter fun x => x.2.handleName?.isNone) = Rows.signatureOrderUptoRow.laid from by kernel_rfl]
    exact laid_met os, by
    rw [show (Rows.signatureOrderUptoRow.laid.filter fun x => x.2.handleName?.isSome) = [] from by kernel_rfl]
    exact fun x hx => absurd hx (List.not_mem_nil)⟩
theorem liftedUpto (os : Os) (started : os.Started) (H : Type) (enc : TypeId × Value → H) (F : Stop.Interp) :
    ReturnsInHanded {} Tryz.checked os 3 .any ((Rows.OpenSpec.upto Rows.signatureOrderSpec).preRow enc Tryz.prog Tryz.f3 Rows.signatureOrderUptoRow.domain false Rows.signatureOrderUptoRow.laid) (((Rows.OpenSpec.upto Rows.signatureOrderSpec).at F).post enc Tryz.prog Tryz.f3 false true false false) := by
  obtain ⟨places, hx⟩ := reads os enc
  refine returnsInHanded_of_row (C := Tryz.checked) (s := Rows.OpenSpec.upto Rows.signatureOrderSpec) own started (by kernel_rfl) Tryz.func3
    (witness_row_at (enc := enc) (C := Tryz.checked) false (laidWorld os) #[arg0] rfl (by kernel_rfl) (by kernel_rfl) (by kernel_rfl)
      (OpenSpec.preRow_of_cond 8 hx (by kernel_rfl) (fun k hk => by cases hk; kernel_rfl) (by kernel_rfl) (laid_metH os))) ?_
  intro W base args ds gs before hval hW _ hcond _ hL hsh _
  exact contract H enc W base args ds gs before hval hW (hcond _ rfl) hL hsh
theorem saidUpto : Rows.SignatureOrderUptoSaid :=
  OpenClaim.holds_of_cond 3 Tryz.f3 rfl rfl rfl rfl rfl rfl rfl ⟨rfl, rfl, rfl, rfl, rfl⟩ rfl rfl rfl rfl rfl (by kernel_rfl) Tryz.func3 (by kernel_rfl)
    (of_decide_eq_true (by kernel_rfl)) (by unfold Func.isWrapper; first | (rw [if_pos (by decide +kernel)]; kernel_rfl) | (rw [if_neg (by decide +kernel)]; exact ⟨rfl, rfl⟩))
    (fun os started H enc _ F => by rw [OpenClaim.pre_eq_preRow]; exact liftedUpto os started H enc F)
theorem plain (f : FuncId) (fn : Func) (hf : Tryz.pinned.checked.prog.funcNamed "framewise/framewiselaw57.SignatureOrder" = some f) (hfn : Tryz.pinned.checked.prog.funcs[f]? = some fn) :
    true = Tryz.pinned.checked.prog.looks [] ∧ ∀ (j : Nat) t, fn.params[j]? = some t → Tryz.pinned.checked.prog.wantsStandIn t = false := by
  obtain rfl : f = 3 := Option.some.inj ((show Tryz.prog.funcNamed "framewise/framewiselaw57.SignatureOrder" = some 3 by kernel_rfl).symm.trans hf) |>.symm
  obtain rfl : fn = Tryz.f3 := (Option.some.inj (Tryz.func3.symm.trans hfn)).symm
  refine ⟨by kernel_rfl, fun j t ht => ?_⟩
  rw [Tryz.params3] at ht
  obtain rfl : t = 24 := by simpa using Array.mem_of_getElem? ht
  exact (show Tryz.prog.wantsStandIn 24 = false by kernel_rfl)
theorem cardUpto : Rows.SignatureOrderUptoCardSaid :=
  Claim7.holds_tied_plain_at .later [] _ _ _ _ saidUpto (fun _ h => by cases h) (by kernel_rfl) (fun _ h => by cases h) signatureOrderUpto_row_tie rfl ⟨rfl, rfl⟩ (by kernel_rfl) rfl plain (by kernel_rfl)
end Go.Proofs.YtjongcdlginjlaaGreatDoor.signatureOrder
