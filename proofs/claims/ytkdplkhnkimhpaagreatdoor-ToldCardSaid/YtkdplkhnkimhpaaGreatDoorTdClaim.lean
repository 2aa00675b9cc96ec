/-
  Proved: layerskeep.Told returns true for every two numbers, every text and every third number.
  Conditions: the listed package-level variables hold what the program's text lays there (tied by the given text).
-/
import Derived.Test.YtkdplkhnkimhpaaGreatDoorCards
import Derived.Test.YtkdplkhnkimhpaaGreatDoorTie
import Derived.ProofKit
import Derived.OpenShut
import Derived.Carry
import Derived.Deep.DeepHandedRow
import Derived.Deep.DeepWitnessRowRef
import Derived.Lay
import Derived.LaidHandle
import Derived.Lib.LaidU8
import Derived.Test.YtkdplkhnkimhpaaGreatDoorY22
set_option linter.unusedVariables false
set_option linter.unusedSimpArgs false
namespace Go.Proofs.YtkdplkhnkimhpaaGreatDoor.lawTold
open Go.ChangeShapes Go.WideShapes Go.ChangeAt Go.RowKit
open Go.WideMaps Go.WideElems
open Go.ChangeMaps (setBlock shut_map_nil open_string shut_string keptBut_setBlock frozen?_setBlock heap_setBlock_same)

theorem own : ownKnob Tryz.prog.godebug = none := by kernel_rfl
theorem et : Tryz.prog.globalNamed "errors.errorType" = some 0 := by kernel_rfl
theorem og : Tryz.prog.globalNamed "math/bits.deBruijn64tab" = some 10 := by kernel_rfl
theorem rt : (Tryz.prog.cutTypes.find? (·.1 == "internal/reflectlite.rtype")).map (·.2) = some 150 := by kernel_rfl
theorem oneRow : ((List.range 295).filter fun t => Tryz.prog.rowNamed t [101, 114, 114, 111, 114]) = [53] := by kernel_rfl
theorem size : Tryz.prog.types.size = 295 := by kernel_rfl
theorem laidOut : laidOutB Tryz.prog = true := by kernel_rfl

/-- what the condition gives a walk: the handle -/
theorem handle_of_laid {W : World} (h : laidMetH Tryz.prog Rows.toldRow.laid W) : ErrT W := by
  have h' : laidMet Tryz.prog _ W ∧ handlesMet Tryz.prog [("errors.errorType", Rows.laid_errors_errorType)] W := h
  obtain ⟨name, u, ty, e1, e2, e3, e4, e5⟩ := h'.2 _ (List.mem_singleton.2 rfl)
  have en : name = [101, 114, 114, 111, 114] := (Option.some.inj e1).symm
  subst en
  obtain rfl := Option.some.inj (rt.symm.trans e2)
  have hm : ty ∈ (List.range 295).filter fun t => Tryz.prog.rowNamed t [101, 114, 114, 111, 114] := List.mem_filter.2 ⟨List.mem_range.2 (by rw [← size]; exact e3), e4⟩
  rw [oneRow] at hm
  obtain rfl := List.mem_singleton.1 hm
  have hh : typeHandle Tryz.prog 53 = .pointer (some ⟨11, 53, none⟩) := by kernel_rfl
  rw [hh] at e5
  unfold ErrT
  simpa using World.var?_cell et e5 0
/-- .. and the one cell of a table -/
theorem tz_of_laid {W : World} (h : laidMetH Tryz.prog Rows.toldRow.laid W) : Tz W := by
  have h' : laidMet Tryz.prog [("math/bits.deBruijn32tab", Rows.laid_math_bits_deBruijn32tab), ("math/bits.deBruijn64tab", Rows.laid_math_bits_deBruijn64tab), ("internal/strconv.uint64pow10", Rows.laid_internal_strconv_uint64pow10), ("layers/sha.start", Rows.laid_layers_sha_start), ("layers/sha.words", Rows.laid_layers_sha_words), ("unicode/utf8.acceptRanges", Rows.laid_unicode_utf8_acceptRanges), ("unicode/utf8.first", Rows.laid_unicode_utf8_first)] W ∧ handlesMet Tryz.prog _ W := h
  obtain ⟨g, t, cs, fuel, p, hg, hty, hvar, hd⟩ := Lib.laidMet.reads h'.1 (List.mem_cons_of_mem _ List.mem_cons_self)
  obtain rfl := Option.some.inj (og.symm.trans hg)
  obtain ⟨fuel', d, q, hdi, he⟩ := Lib.array_elem (show Tryz.prog.underlying t = some (.array 64 5) from by
    obtain rfl := Option.some.inj ((show Tryz.prog.globals[10]?.map (·.type) = some 268 by kernel_rfl).symm.trans hty)
    exact Tryz.underlying268) hd 7 (by omega)
  have hb' : some d = some (DataW.lit (.int .u8 3)) := hdi.symm.trans rfl
  obtain rfl := Option.some.inj hb'
  rw [show Tryz.prog.cellsOf 5 = 1 by kernel_rfl] at he
  obtain ⟨n, hs, hx, _⟩ := DataW.trod_int Tryz.underlying5 he
  simp only [Prod.mk.injEq, DataW.lit.injEq, Lit.int.injEq] at hx
  obtain rfl := hx.1.2.symm
  unfold Tz
  rw [World.var?_cell hg hvar 7, ← Array.getElem?_toList]
  have := congrArg (·[0]?) hs
  simp only [List.getElem?_take, List.getElem?_drop] at this
  simpa using this

theorem tab_of_mem {W : World} {l : List (String × DataW Unit)} {name : String} {k : IntKind} {zs : List Int} {g : Nat} {t e : TypeId} {n : Nat} (hm : (name, (Lib.tabData k zs : DataW Unit)) ∈ l)
    (hg : Tryz.prog.globalNamed name = some g) (hty : (Tryz.prog.globals[g]?).map (·.type) = some t) (ht : Tryz.prog.underlying t = some (.array n e)) (he : Tryz.prog.underlying e = some (.int k)) (hce : Tryz.prog.cellsOf e = 1) (hct : Tryz.prog.cellsOf t = n)
    (h : laidMet Tryz.prog l W) : Lib.TabIs Tryz.prog W name k zs := by
  obtain ⟨g', t', cs, fuel, p, hg', ht', hvar, hd⟩ := Lib.laidMet.reads h hm
  obtain rfl := Option.some.inj (hg.symm.trans hg')
  obtain rfl := Option.some.inj (hty.symm.trans ht')
  unfold Lib.TabIs
  rw [hvar, ← Lib.cells_of_tab ht he hce hct hd]
def wordsZ : List Int := keysW.map fun x => ((tn x : Nat) : Int)
def startZ : List Int := (List.range 8).map fun i => ((tn (startW.at i) : Nat) : Int)
theorem words_z : (Rows.laid_layers_sha_words : DataW Unit) = Lib.tabData .u32 wordsZ := by kernel_rfl
theorem start_z : (Rows.laid_layers_sha_start : DataW Unit) = Lib.tabData .u32 startZ := by kernel_rfl
theorem pow_z : (Rows.laid_internal_strconv_uint64pow10 : DataW Unit) = Lib.tabData .u64 Lib.pow10Tab := by kernel_rfl
theorem startZ_at : ∀ i, i < 8 → startZ.getD i 0 = ((tn (startW.at i) : Nat) : Int) := by decide
theorem wordsZ_at (i : Nat) (h : i < 64) : wordsZ.getD i 0 = ((tn (keysW.getD i 0) : Nat) : Int) := by
  have hl : i < keysW.length := h
  unfold wordsZ
  rw [List.getD_eq_getElem?_getD, List.getD_eq_getElem?_getD, List.getElem?_map, List.getElem?_eq_getElem hl]; rfl
theorem tabs_of_laid {W : World} (h : laidMetH Tryz.prog Rows.toldRow.laid W) : Tabs W := by
  have h' : laidMet Tryz.prog [("math/bits.deBruijn32tab", Rows.laid_math_bits_deBruijn32tab), ("math/bits.deBruijn64tab", Rows.laid_math_bits_deBruijn64tab), ("internal/strconv.uint64pow10", Rows.laid_internal_strconv_uint64pow10), ("layers/sha.start", Rows.laid_layers_sha_start), ("layers/sha.words", Rows.laid_layers_sha_words), ("unicode/utf8.acceptRanges", Rows.laid_unicode_utf8_acceptRanges), ("unicode/utf8.first", Rows.laid_unicode_utf8_first)] W ∧ handlesMet Tryz.prog [("errors.errorType", Rows.laid_errors_errorType)] W := h
  have hw : Lib.TabIs Tryz.prog W "layers/sha.words" .u32 wordsZ := tab_of_mem (g := 2) (t := 194) (e := 164) (n := 64) (by rw [← words_z]; simp) (by kernel_rfl) (by kernel_rfl) (by kernel_rfl) (by kernel_rfl) (by kernel_rfl) (by kernel_rfl) h'.1
  have hs : Lib.TabIs Tryz.prog W "layers/sha.start" .u32 startZ := tab_of_mem (g := 1) (t := 165) (e := 164) (n := 8) (by rw [← start_z]; simp) (by kernel_rfl) (by kernel_rfl) (by kernel_rfl) (by kernel_rfl) (by kernel_rfl) (by kernel_rfl) h'.1
  have hp : Lib.TabIs Tryz.prog W "internal/strconv.uint64pow10" .u64 Lib.pow10Tab := tab_of_mem (g := 6) (t := 250) (e := 163) (n := 20) (by rw [← pow_z]; simp) (by kernel_rfl) (by kernel_rfl) (by kernel_rfl) (by kernel_rfl) (by kernel_rfl) (by kernel_rfl) h'.1
  refine ⟨fun k hk => ?_, fun k hk => ?_, tz_of_laid h, hp⟩
  · have := hw.cell (g := 2) (by kernel_rfl) k (by show k < 64; exact hk)
    rw [wordsZ_at k hk] at this; exact this
  · have := hs.cell (g := 1) (by kernel_rfl) k (by show k < 8; exact hk)
    rw [startZ_at k hk] at this; exact this

/-- a world that meets the condition -/
noncomputable def laidWorld (os : Os) : World :=
  let w0 := World.laidAll Tryz.prog os [("math/bits.deBruijn32tab", Rows.laid_math_bits_deBruijn32tab), ("math/bits.deBruijn64tab", Rows.laid_math_bits_deBruijn64tab), ("internal/strconv.uint64pow10", Rows.laid_internal_strconv_uint64pow10), ("layers/sha.start", Rows.laid_layers_sha_start), ("layers/sha.words", Rows.laid_layers_sha_words), ("unicode/utf8.acceptRanges", Rows.laid_unicode_utf8_acceptRanges), ("unicode/utf8.first", Rows.laid_unicode_utf8_first)]
  { w0 with heap := w0.heap.modify 0 fun
      | .cells _ t frozen => .cells #[.iface 150 (.agg #[.pointer (some ⟨11, 53, none⟩)])] t frozen
      | o => o }
theorem laid_met (os : Os) : laidMetH Tryz.prog Rows.toldRow.laid ((laidWorld os).forCall (fun _ _ => 0) ⟨#[], #[.int .i64 0, .int .i64 0, .string ByteArray.empty, .int .i64 0], []⟩).memory :=
  laidMetH_of_parts3 (fuel := 8) (laidMet_of_run' 8 (by kernel_rfl) (by kernel_rfl)) (by kernel_rfl) (by kernel_rfl)
theorem reads (os : Os) {H : Type} (enc : TypeId × Value → H) : ∃ places, DataW.whole enc Tryz.prog ((laidWorld os).forCall (fun _ _ => 0) ⟨#[], #[.int .i64 0, .int .i64 0, .string ByteArray.empty, .int .i64 0], []⟩).memory Tryz.f3.params.toList Rows.toldSpec.vars false #[Value.int .i64 0, .int .i64 0, .string ByteArray.empty, .int .i64 0].toList 8 = some ([.lit (.int .i64 0), .lit (.int .i64 0), .lit (.string []), .lit (.int .i64 0)], [], places) :=
  ⟨[], by kernel_rfl⟩

set_option maxRecDepth 100000 in
theorem lifted (os : Os) (started : os.Started) (H : Type) (enc : TypeId × Value → H) (F : Stop.Interp) :
    ReturnsInHanded {} Tryz.checked os 3 .any ((OpenSpec.ofChange Rows.toldSpec).preRow enc Tryz.prog Tryz.f3 Rows.toldRow.domain false Rows.toldRow.laid) (((OpenSpec.ofChange Rows.toldSpec).at F).post enc Tryz.prog Tryz.f3 false true false false) := by
  obtain ⟨places, hx⟩ := reads os enc
  refine returnsInHanded_of_row (C := Tryz.checked) (s := OpenSpec.ofChange Rows.toldSpec) own started (by kernel_rfl) Tryz.func3
    (witness_row_atRef (enc := enc) (C := Tryz.checked) false (laidWorld os) #[.int .i64 0, .int .i64 0, .string ByteArray.empty, .int .i64 0] rfl (by kernel_rfl) (by kernel_rfl) (by kernel_rfl)
      (OpenSpec.preRow_of_cond 8 hx (by kernel_rfl) (fun k hk => by cases hk) (by kernel_rfl) (laid_met os))) ?_
  intro W base args ds gs before hval hW _ hcond _ hL hsh _
  have hW' := hW
  obtain ⟨p, q, hA0, hV, rfl, hfz, hnd⟩ := hW
  have hA : DataW.TrodAll enc Tryz.prog W 0 (fun _ => true) true Tryz.f3.params.toList args.toList ds p := hA0
  rw [Tryz.params3] at hA hval
  obtain ⟨v0, v1, v2, v3, d0, d1, d2, d3, p0, p1, p2, p3, rfl, rfl, rfl, h0, h1, h2, h3⟩ := trodAll_four hA
  obtain ⟨rfl, rfl⟩ := trodVars_none hV
  obtain ⟨n0, rfl, rfl, rfl, w0⟩ := open_int Tryz.underlying3 (hval 0 3 v0 rfl rfl) h0
  obtain ⟨n1, rfl, rfl, rfl, w1⟩ := open_int Tryz.underlying3 (hval 1 3 v1 rfl rfl) h1
  obtain ⟨s2, rfl, rfl, rfl, w2⟩ := open_string Tryz.underlying9 (hval 2 9 v2 rfl rfl) h2
  obtain ⟨n3, rfl, rfl, rfl, w3⟩ := open_int Tryz.underlying3 (hval 3 3 v3 rfl rfl) h3
  clear hA0
  simp only [List.append_nil] at hW'
  have hb : ∀ {n : Int}, (Lit.int .i64 n).wf = true → -9223372036854775808 ≤ n ∧ n ≤ 9223372036854775807 := by
    intro n h
    have h' : (decide (IntKind.i64.min ≤ n) && decide (n ≤ IntKind.i64.max)) = true := h
    rw [Bool.and_eq_true, decide_eq_true_eq, decide_eq_true_eq] at h'
    exact h'
  have hstd : Std W := ⟨Tryz.laysM219.s1_3 W hsh⟩
  have walk := told_any n0 n1 n3 s2.data.toList W hstd (handle_of_laid hL) (tabs_of_laid hL) (hb w0) (hb w1) (hb w3) (by simpa using w2)
  rw [S_of] at walk
  refine walk.mono fun e W' ⟨he, hg⟩ => ?_
  subst he
  exact ⟨_, rfl, _, _, _, [], [], [], hW', trodAll_mk1 (shut_bool Tryz.underlying4 _), trodAll_mk4 (shut_int Tryz.underlying3 w0) (shut_int Tryz.underlying3 w1) (shut_string Tryz.underlying9 w2) (shut_int Tryz.underlying3 w3), rfl, hg.frame _, fun h => by cases h⟩

theorem said : Rows.ToldSaid :=
  OpenClaim.holds_of_cond 3 Tryz.f3 rfl rfl rfl rfl rfl rfl rfl ⟨rfl, rfl, rfl, rfl, rfl⟩ rfl rfl rfl rfl rfl (by kernel_rfl) Tryz.func3 (by kernel_rfl)
    (of_decide_eq_true (by kernel_rfl)) (by unfold Func.isWrapper; first | (rw [if_pos (by decide +kernel)]; kernel_rfl) | (rw [if_neg (by decide +kernel)]; exact ⟨rfl, rfl⟩))
    (fun os started H enc _ F => by rw [OpenClaim.pre_eq_preRow]; exact lifted os started H enc F)

theorem plain (f : FuncId) (fn : Func) (hf : Tryz.pinned.checked.prog.funcNamed "layers/layerskeep.Told" = some f) (hfn : Tryz.pinned.checked.prog.funcs[f]? = some fn) :
    true = Tryz.pinned.checked.prog.looks [] ∧ ∀ (j : Nat) t, fn.params[j]? = some t → Tryz.pinned.checked.prog.wantsStandIn t = false := by
  obtain rfl : f = 3 := Option.some.inj ((show Tryz.prog.funcNamed "layers/layerskeep.Told" = some 3 by kernel_rfl).symm.trans hf) |>.symm
  obtain rfl : fn = Tryz.f3 := (Option.some.inj (Tryz.func3.symm.trans hfn)).symm
  refine ⟨by kernel_rfl, fun j t ht => ?_⟩
  rw [Tryz.params3] at ht
  have hm : t ∈ [3, 3, 9, 3] := by simpa using Array.mem_of_getElem? ht
  have hi : Tryz.prog.wantsStandIn 3 = false := by kernel_rfl
  have hs : Tryz.prog.wantsStandIn 9 = false := by kernel_rfl
  simp only [List.mem_cons, List.mem_nil_iff, or_false] at hm
  rcases hm with rfl | rfl | rfl | rfl
  · exact hi
  · exact hi
  · exact hs
  · exact hi

theorem card : Rows.ToldCardSaid :=
  Claim7.holds_tied_plain_at .later [] _ _ _ _ said (fun _ h => by cases h) (by kernel_rfl) (fun _ h => by cases h) told_row_tie rfl ⟨rfl, rfl⟩ (by kernel_rfl) rfl plain (by kernel_rfl)
end Go.Proofs.YtkdplkhnkimhpaaGreatDoor.lawTold
