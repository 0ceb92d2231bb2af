/- The claim's texts, part 13: contracts of the functions that the statement reaches, and what they say of the data. -/
import Derived.Test.YtjongcdlginjlaaGreatDoorPm12
set_option maxRecDepth 100000
set_option maxHeartbeats 8000000
set_option linter.all false
namespace Go.Proofs.YtjongcdlginjlaaGreatDoor.signatureMake
open Go.Proofs.Tryz
open Go.ChangeShapes Go.WideShapes Go.ChangeAt Go.RowKit
theorem own : ownKnob Tryz.prog.godebug = none := by kernel_rfl
theorem laidOut : laidOutB Tryz.prog = true := by kernel_rfl
theorem laid_one {W : World} {l : List (String × DataW Unit)} (name : String) {x : String × DataW Unit} (h : laidMetH Tryz.prog l W) (hf : l.filter (fun y => y.1 == name) = [x]) (hx : [x].filter (fun y => y.2.handleName?.isNone) = [x]) : laidMet Tryz.prog [x] W := by
 have h1 := h.filter (fun y => y.1 == name)
 rw [hf] at h1; have h2 := (laidMetH_iff.1 h1).1
 rwa [hx] at h2
theorem var_iface {W : World} {name tn : String} {d : DataW Unit} {g : Nat} {t : TypeId} {ms : Array (String × TypeId)} (hg : Tryz.prog.globalNamed name = some g) (hty : (Tryz.prog.globals[g]?).map (·.type) = some t) (ht : Tryz.prog.underlying t = some (.interface ms)) (h : laidMet Tryz.prog [(name, .iface tn d)] W) : ∃ tp p, World.var? Tryz.prog W name = some #[.iface tp p] := by
 obtain ⟨ps, ⟨g', t', cs, fuel, p, q, hg', ht', hvar, hd, _, _⟩, _⟩ := h; obtain rfl := Option.some.inj (hg.symm.trans hg'); obtain rfl := Option.some.inj (hty.symm.trans ht')
 have key : ∃ u v, cs.toList = [.iface u v] := by
  cases fuel with
  | zero => simp [DataW.trod] at hd
  | succ n =>
    unfold DataW.trod at hd
    rw [ht] at hd
    split at hd <;> simp_all
 obtain ⟨u, v, hc⟩ := key
 exact ⟨u, v, by rw [hvar, Array.eq_one_of_toList hc]⟩
theorem gTab : Tryz.prog.globalNamed "internal/strconv.uint64pow10" = some 1 := by kernel_rfl
theorem gTabType : (Tryz.prog.globals[1]?).map (·.type) = some 231 := by kernel_rfl
theorem cellsTab : Tryz.prog.cellsOf 231 = 20 := by kernel_rfl
theorem cellsU64 : Tryz.prog.cellsOf 181 = 1 := by kernel_rfl
theorem env_of {W : World} (hL : laidMetH Tryz.prog Rows.signatureMakeUptoRow.laid W) (hsh : W.ShapedOpen Tryz.prog) : Env W where
 sx := var_iface (g := 2) (tn := "*errors.errorString") (by kernel_rfl) (by kernel_rfl) underlying187 (laid_one "strconv.ErrSyntax" hL (x := ("strconv.ErrSyntax", Rows.laid_strconv_ErrSyntax)) (by kernel_rfl) (by kernel_rfl))
 rg := var_iface (g := 3) (tn := "*errors.errorString") (by kernel_rfl) (by kernel_rfl) underlying187 (laid_one "strconv.ErrRange" hL (x := ("strconv.ErrRange", Rows.laid_strconv_ErrRange)) (by kernel_rfl) (by kernel_rfl))
 ten := Lib.tabIs_of_head (rest := []) gTab gTabType underlying231 underlying181 cellsU64 cellsTab (laid_one "internal/strconv.uint64pow10" hL (x := ("internal/strconv.uint64pow10", Lib.tabData .u64 Lib.pow10Tab)) (by kernel_rfl) (by kernel_rfl))
 big := by
  have h7 : (((begin Tryz.prog (fun _ _ => 0) default).world.heap[7]?).bind Obj.row?).isSome = true := by kernel_rfl
  obtain ⟨⟨z, t⟩, e⟩ := Option.isSome_iff_exists.1 h7
  obtain ⟨cs, hc, _⟩ := hsh.1 7 z t (of_decide_eq_true (by kernel_rfl)) e
  rcases Nat.lt_or_ge 7 W.heap.size with q | q
  · omega
  · rw [Array.getElem?_eq_none q] at hc; cases hc
theorem contract (H : Type) (enc : TypeId × Value → H) (W : World) (base : Nat) (args : Array Value) (ds gs : List (DataW H)) (before : List MemPlace)
 (hval0 : ∀ (j : Nat) t v, Tryz.f4.params[j]? = some t → args[j]? = some v → Value.okWide Tryz.prog W .any base t v)
 (hW : DataW.Whole enc Tryz.prog Tryz.f4.params.toList Rows.signatureMakeSpec.vars false W args.toList ds gs before) (hk : Rows.uptoSmall H (ds ++ gs) = true) (hL : laidMetH Tryz.prog Rows.signatureMakeUptoRow.laid W) (hsh : W.ShapedOpen Tryz.prog) :
 Calls Tryz.prog 4 args W fun e W' => ∃ v, e = .returned v ∧ Rows.signatureMakeSpec.post enc Tryz.prog Tryz.f4 false true false false W args v W' := by
 have hval : ∀ (j : Nat) t v, Tryz.f4.params[j]? = some t → args[j]? = some v → Value.okWide Tryz.prog W .any base t v := hval0
 have hW' := hW; obtain ⟨p, q, hA0, hV, rfl, hfz, hnd⟩ := hW
 have hA : DataW.TrodAll enc Tryz.prog W 0 (fun _ => true) true Tryz.f4.params.toList args.toList ds p := hA0
 rw [Tryz.params4] at hA hval; obtain ⟨v0, vs0, d0, ds0, p0, q0, hargs, rfl, rfl, h0, r0⟩ := trodAll_cons hA; obtain ⟨v1, vs1, d1, ds1, p1, q1, hargs1, rfl, rfl, h1, r1⟩ := trodAll_cons r0; obtain ⟨rfl, rfl, rfl⟩ := trodAll_nil r1; subst hargs1
 obtain rfl : args = #[v0, v1] := by cases args; simp_all
 obtain ⟨rfl, rfl⟩ := trodVars_none hV; obtain ⟨cs, rfl, hcs⟩ := okWide_struct underlying24 (hval 0 _ v0 rfl rfl); obtain ⟨a2, n2, c2, rfl⟩ := okWide_slice underlying51 (hval 1 _ v1 rfl rfl); have k1 := h1
 have lt1 : ∀ x ∈ p1, x.block < W.heap.size := by obtain ⟨m, hm⟩ := k1; exact DataW.trod_lt m _ _ _ hm
 have k0 := h0
 have lt0 : ∀ x ∈ p0, x.block < W.heap.size := by obtain ⟨m, hm⟩ := k0; exact DataW.trod_lt m _ _ _ hm
 have hb2 : Rows.uptoBulk d0 ≤ 1048576 ∧ Rows.uptoBulk d1 ≤ 1048576 := by
  have h := of_decide_eq_true hk
  simp only [List.append_nil, Rows.uptoBulkAll] at h
  omega
 have hb := hb2.1; obtain ⟨fuel1, hf1⟩ := h1; obtain ⟨a3, n3, c3, ns, hc3, hs3, hg3⟩ := open_names hf1 hb2.2
 replace hc3 : [Value.slice a2 n2 c2] = [.slice a3 n3 c3] := hc3
 cases hc3
 obtain ⟨fuel, hf⟩ := h0; obtain ⟨i, a, k, c, hc, hs, hm, hg⟩ := open_ifc hf hb
 have hc : cs.toList = [.string i.module_, .slice a k c] := hc
 obtain rfl : cs = #[.string i.module_, .slice a k c] := by cases cs; simp_all
 clear hA0 hval0
 refine (law57_Make hs hs3 (fun e he => (gE_big (by decide) (hg e he)).1) (Nat.le_trans hm (by decide)) (fun e he => (gE_big (by decide) (hg e he)).2) (fun s hs => Nat.le_trans (hg3 s hs) (by decide)) (env_of hL hsh)).mono fun e W' ⟨he, bel⟩ => ?_
 subst he
 exact ⟨_, rfl, _, _, _, [], _, [], hW', trodAll_mk1 (shut_bool underlying4 _), (trodAll_cons_mk (Below.trod laidOut (by kernel_rfl) (of_decide_eq_true (by kernel_rfl)) k0 bel lt0) (trodAll_cons_mk (Below.trod laidOut (by kernel_rfl) (of_decide_eq_true (by kernel_rfl)) k1 bel lt1) trodAll_mk0)), rfl, bel.frame _, fun h => by cases h⟩
abbrev textR : ByteArray := { data := #[118, 97, 108, 117, 101, 32, 111, 117, 116, 32, 111, 102, 32, 114, 97, 110, 103, 101] }
abbrev textS : ByteArray := { data := #[105, 110, 118, 97, 108, 105, 100, 32, 115, 121, 110, 116, 97, 120] }
def leaf : DataW Unit → Value
 | .lit (.int k n) => .int k n
 | _ => .nilIface
def flat1 : DataW Unit → List Value
 | .agg ds => ds.map leaf
 | d => [leaf d]
def flat2 : DataW Unit → List Value
 | .agg ds => ds.flatMap flat1
 | d => [leaf d]
def layAt (g : Nat) (row : List Value) (h : Array Obj) : Array Obj := h.modify g fun
 | .cells _ t frozen => .cells row.toArray t frozen
 | o => o
noncomputable def low : Nat := (World.holding Tryz.prog default ⟨#[], #[], []⟩).heap.size
noncomputable def kGT (os : Os) : World :=
 let w0 := World.holding Tryz.prog os ⟨#[.cells #[.string textR] 269, .cells #[.string textS] 269], #[], []⟩
 { w0 with heap := layAt 4 (flat2 Rows.laid_math_bits_deBruijn32tab) (layAt 5 (flat2 Rows.laid_math_bits_deBruijn64tab) (layAt 1 (flat2 Rows.laid_internal_strconv_uint64pow10) (layAt 7 (flat2 Rows.laid_unicode_utf8_acceptRanges) (layAt 6 (flat2 Rows.laid_unicode_utf8_first)
   (layAt 3 [.iface 267 (.pointer (some ⟨low, 0, none⟩))] (layAt 2 [.iface 267 (.pointer (some ⟨low + 1, 0, none⟩))] w0.heap)))))) }
abbrev arg0 : Value := .agg #[.string ⟨#[]⟩, .slice none 0 0]
abbrev arg1 : Value := .slice none 0 0
theorem laid_met (os : Os) : laidMet Tryz.prog Rows.signatureMakeUptoRow.laid ((kGT os).forCall (fun _ _ => 0) ⟨#[], #[arg0, arg1], []⟩).memory :=
 laidMet_of_run' 8 (by kernel_rfl) (by kernel_rfl)
theorem reads (os : Os) {H : Type} (enc : TypeId × Value → H) : ∃ places, DataW.whole enc Tryz.prog ((kGT os).forCall (fun _ _ => 0) ⟨#[], #[arg0, arg1], []⟩).memory Tryz.f4.params.toList Rows.signatureMakeSpec.vars false #[arg0, arg1].toList 8 = some ([.agg [.lit (.string []), .nil], .nil], [], places) :=
 ⟨[], by kernel_rfl⟩
end Go.Proofs.YtjongcdlginjlaaGreatDoor.signatureMake
namespace Go.Proofs.YtjongcdlginjlaaGreatDoor.signatureMake
open Go.Proofs.Tryz
open Go.ChangeShapes Go.WideShapes Go.ChangeAt Go.RowKit
theorem laid_metH (os : Os) : laidMetH Tryz.prog Rows.signatureMakeUptoRow.laid ((kGT os).forCall (fun _ _ => 0) ⟨#[], #[arg0, arg1], []⟩).memory :=
 laidMetH_iff.2 ⟨by
  rw [show (Rows.signatureMakeUptoRow.laid.filter fun x => x.2.handleName?.isNone) = Rows.signatureMakeUptoRow.laid from by kernel_rfl]
  exact laid_met os, by
  rw [show (Rows.signatureMakeUptoRow.laid.filter fun x => x.2.handleName?.isSome) = [] from by kernel_rfl]
  exact fun x hx => absurd hx (List.not_mem_nil)⟩
theorem liftedUpto (os : Os) (started : os.Started) (H : Type) (enc : TypeId × Value → H) (F : Stop.Interp) :
 ReturnsInHanded {} Tryz.checked os 4 .any ((Rows.OpenSpec.upto Rows.signatureMakeSpec).preRow enc Tryz.prog Tryz.f4 Rows.signatureMakeUptoRow.domain false Rows.signatureMakeUptoRow.laid) (((Rows.OpenSpec.upto Rows.signatureMakeSpec).at F).post enc Tryz.prog Tryz.f4 false true false false) := by
 obtain ⟨places, hx⟩ := reads os enc
 refine returnsInHanded_of_row (C := Tryz.checked) (s := Rows.OpenSpec.upto Rows.signatureMakeSpec) own started (by kernel_rfl) func4
  (witness_row_at (enc := enc) (C := Tryz.checked) false (kGT os) #[arg0, arg1] rfl (by kernel_rfl) (by kernel_rfl) (by kernel_rfl)
    (OpenSpec.preRow_of_cond 8 hx (by kernel_rfl) (fun k hk => by cases hk; kernel_rfl) (by kernel_rfl) (laid_metH os))) ?_
 intro W base args ds gs before hval hW _ hcond _ hL hsh _
 exact contract H enc W base args ds gs before hval hW (hcond _ rfl) hL hsh
theorem saidUpto : Rows.SignatureMakeUptoSaid :=
 OpenClaim.holds_of_cond 4 Tryz.f4 rfl rfl rfl rfl rfl rfl rfl ⟨rfl, rfl, rfl, rfl, rfl⟩ rfl rfl rfl rfl rfl (by kernel_rfl) func4 (by kernel_rfl)
  (of_decide_eq_true (by kernel_rfl)) (by unfold Func.isWrapper; first | (rw [if_pos (by decide +kernel)]; kernel_rfl) | (rw [if_neg (by decide +kernel)]; exact ⟨rfl, rfl⟩))
  (fun os started H enc _ F => by rw [OpenClaim.pre_eq_preRow]; exact liftedUpto os started H enc F)
theorem plain (f : FuncId) (fn : Func) (hf : Tryz.pinned.checked.prog.funcNamed "framewise/framewiselaw57.SignatureMake" = some f) (hfn : Tryz.pinned.checked.prog.funcs[f]? = some fn) :
 true = Tryz.pinned.checked.prog.looks [] ∧ ∀ (j : Nat) t, fn.params[j]? = some t → Tryz.pinned.checked.prog.wantsStandIn t = false := by
 obtain rfl : f = 4 := Option.some.inj ((show Tryz.prog.funcNamed "framewise/framewiselaw57.SignatureMake" = some 4 by kernel_rfl).symm.trans hf) |>.symm
 obtain rfl : fn = Tryz.f4 := (Option.some.inj (func4.symm.trans hfn)).symm
 refine ⟨by kernel_rfl, fun j t ht => ?_⟩
 rw [Tryz.params4] at ht
 have hm : t = 24 ∨ t = 51 := by simpa using Array.mem_of_getElem? ht
 rcases hm with rfl | rfl
 · exact (show Tryz.prog.wantsStandIn 24 = false by kernel_rfl)
 · exact (show Tryz.prog.wantsStandIn 51 = false by kernel_rfl)
theorem cardUpto : Rows.SignatureMakeUptoCardSaid :=
 Claim7.holds_tied_plain_at .later [] _ _ _ _ saidUpto (fun _ h => by cases h) (by kernel_rfl) (fun _ h => by cases h) signatureMakeUpto_row_tie rfl ⟨rfl, rfl⟩ (by kernel_rfl) rfl plain (by kernel_rfl)
end Go.Proofs.YtjongcdlginjlaaGreatDoor.signatureMake
