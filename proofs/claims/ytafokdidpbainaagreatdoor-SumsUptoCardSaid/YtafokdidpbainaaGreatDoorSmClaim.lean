/-
  Proved: layerslaw.Sums returns true for every list of entries, and leaves the list as it was.
  Conditions: what the list holds is of bulk at most 1048576 (the second form); the listed package-level variables hold what the program's text lays there (tied by the given text).
-/
import Derived.Test.YtafokdidpbainaaGreatDoorCards
import Derived.Test.YtafokdidpbainaaGreatDoorTie
import Derived.ProofKit
import Derived.OpenShut
import Derived.Carry
import Derived.Deep.DeepHandedRow
import Derived.Deep.DeepWitnessRowRef
import Derived.Lay
import Derived.LaidHandle
import Derived.Lib.LaidU8
import Derived.Test.YtafokdidpbainaaGreatDoorY24
import Derived.Test.YtafokdidpbainaaGreatDoorY25
set_option linter.unusedVariables false
set_option linter.unusedSimpArgs false
namespace Go.Proofs.YtafokdidpbainaaGreatDoor.lawSums
open Go.ChangeShapes Go.WideShapes Go.ChangeAt Go.RowKit
open Go.WideMaps Go.WideElems
open Go.ChangeMaps (setBlock shut_map_nil open_string shut_string keptBut_setBlock frozen?_setBlock heap_setBlock_same)

theorem own : ownKnob Tryz.prog.godebug = none := by kernel_rfl
theorem et : Tryz.prog.globalNamed "errors.errorType" = some 0 := by kernel_rfl
theorem og : Tryz.prog.globalNamed "math/bits.deBruijn64tab" = some 8 := by kernel_rfl
theorem rt : (Tryz.prog.cutTypes.find? (·.1 == "internal/reflectlite.rtype")).map (·.2) = some 129 := by kernel_rfl
theorem oneRow : ((List.range 242).filter fun t => Tryz.prog.rowNamed t [101, 114, 114, 111, 114]) = [42] := by kernel_rfl
theorem size : Tryz.prog.types.size = 242 := by kernel_rfl
theorem laidOut : laidOutB Tryz.prog = true := by kernel_rfl

/-- what the condition gives a walk: the handle -/
theorem handle_of_laid {W : World} (h : laidMetH Tryz.prog Rows.sumsRow.laid W) : ErrT W := by
  have h' : laidMet Tryz.prog _ W ∧ handlesMet Tryz.prog [("errors.errorType", Rows.laid_errors_errorType)] W := h
  obtain ⟨name, u, ty, e1, e2, e3, e4, e5⟩ := h'.2 _ (List.mem_singleton.2 rfl)
  have en : name = [101, 114, 114, 111, 114] := (Option.some.inj e1).symm
  subst en
  obtain rfl := Option.some.inj (rt.symm.trans e2)
  have hm : ty ∈ (List.range 242).filter fun t => Tryz.prog.rowNamed t [101, 114, 114, 111, 114] := List.mem_filter.2 ⟨List.mem_range.2 (by rw [← size]; exact e3), e4⟩
  rw [oneRow] at hm
  obtain rfl := List.mem_singleton.1 hm
  have hh : typeHandle Tryz.prog 42 = .pointer (some ⟨9, 42, none⟩) := by kernel_rfl
  rw [hh] at e5
  unfold ErrT
  simpa using World.var?_cell et e5 0
/-- .. and the one cell of a table -/
theorem tz_of_laid {W : World} (h : laidMetH Tryz.prog Rows.sumsRow.laid W) : Tz W := by
  have h' : laidMet Tryz.prog [("math/bits.deBruijn32tab", Rows.laid_math_bits_deBruijn32tab), ("math/bits.deBruijn64tab", Rows.laid_math_bits_deBruijn64tab), ("internal/strconv.uint64pow10", Rows.laid_internal_strconv_uint64pow10), ("layers/sha.start", Rows.laid_layers_sha_start), ("layers/sha.words", Rows.laid_layers_sha_words), ("unicode/utf8.acceptRanges", Rows.laid_unicode_utf8_acceptRanges), ("unicode/utf8.first", Rows.laid_unicode_utf8_first)] W ∧ handlesMet Tryz.prog _ W := h
  obtain ⟨g, t, cs, fuel, p, hg, hty, hvar, hd⟩ := Lib.laidMet.reads h'.1 (List.mem_cons_of_mem _ List.mem_cons_self)
  obtain rfl := Option.some.inj (og.symm.trans hg)
  obtain ⟨fuel', d, q, hdi, he⟩ := Lib.array_elem (show Tryz.prog.underlying t = some (.array 64 5) from by
    obtain rfl := Option.some.inj ((show Tryz.prog.globals[8]?.map (·.type) = some 215 by kernel_rfl).symm.trans hty)
    exact Tryz.underlying215) hd 7 (by omega)
  have hb' : some d = some (DataW.lit (.int .u8 3)) := hdi.symm.trans rfl
  obtain rfl := Option.some.inj hb'
  rw [show Tryz.prog.cellsOf 5 = 1 by kernel_rfl] at he
  obtain ⟨n, hs, hx, _⟩ := DataW.trod_int Tryz.underlying5 he
  simp only [Prod.mk.injEq, DataW.lit.injEq, Lit.int.injEq] at hx
  obtain rfl := hx.1.2.symm
  unfold Tz
  rw [World.var?_cell hg hvar 7, ← Array.getElem?_toList]
  have := congrArg (·[0]?) hs
  simp only [List.getElem?_take, List.getElem?_drop] at this
  simpa using this

theorem tab_of_mem {W : World} {l : List (String × DataW Unit)} {name : String} {k : IntKind} {zs : List Int} {g : Nat} {t e : TypeId} {n : Nat} (hm : (name, (Lib.tabData k zs : DataW Unit)) ∈ l)
    (hg : Tryz.prog.globalNamed name = some g) (hty : (Tryz.prog.globals[g]?).map (·.type) = some t) (ht : Tryz.prog.underlying t = some (.array n e)) (he : Tryz.prog.underlying e = some (.int k)) (hce : Tryz.prog.cellsOf e = 1) (hct : Tryz.prog.cellsOf t = n)
    (h : laidMet Tryz.prog l W) : Lib.TabIs Tryz.prog W name k zs := by
  obtain ⟨g', t', cs, fuel, p, hg', ht', hvar, hd⟩ := Lib.laidMet.reads h hm
  obtain rfl := Option.some.inj (hg.symm.trans hg')
  obtain rfl := Option.some.inj (hty.symm.trans ht')
  unfold Lib.TabIs
  rw [hvar, ← Lib.cells_of_tab ht he hce hct hd]
def wordsZ : List Int := keysW.map fun x => ((tn x : Nat) : Int)
def startZ : List Int := (List.range 8).map fun i => ((tn (startW.at i) : Nat) : Int)
theorem words_z : (Rows.laid_layers_sha_words : DataW Unit) = Lib.tabData .u32 wordsZ := by kernel_rfl
theorem start_z : (Rows.laid_layers_sha_start : DataW Unit) = Lib.tabData .u32 startZ := by kernel_rfl
theorem pow_z : (Rows.laid_internal_strconv_uint64pow10 : DataW Unit) = Lib.tabData .u64 Lib.pow10Tab := by kernel_rfl
theorem startZ_at : ∀ i, i < 8 → startZ.getD i 0 = ((tn (startW.at i) : Nat) : Int) := by decide
theorem wordsZ_at (i : Nat) (h : i < 64) : wordsZ.getD i 0 = ((tn (keysW.getD i 0) : Nat) : Int) := by
  have hl : i < keysW.length := h
  unfold wordsZ
  rw [List.getD_eq_getElem?_getD, List.getD_eq_getElem?_getD, List.getElem?_map, List.getElem?_eq_getElem hl]; rfl
theorem tabs_of_laid {W : World} (h : laidMetH Tryz.prog Rows.sumsRow.laid W) : Tabs W := by
  have h' : laidMet Tryz.prog [("math/bits.deBruijn32tab", Rows.laid_math_bits_deBruijn32tab), ("math/bits.deBruijn64tab", Rows.laid_math_bits_deBruijn64tab), ("internal/strconv.uint64pow10", Rows.laid_internal_strconv_uint64pow10), ("layers/sha.start", Rows.laid_layers_sha_start), ("layers/sha.words", Rows.laid_layers_sha_words), ("unicode/utf8.acceptRanges", Rows.laid_unicode_utf8_acceptRanges), ("unicode/utf8.first", Rows.laid_unicode_utf8_first)] W ∧ handlesMet Tryz.prog [("errors.errorType", Rows.laid_errors_errorType)] W := h
  have hw : Lib.TabIs Tryz.prog W "layers/sha.words" .u32 wordsZ := tab_of_mem (g := 2) (t := 164) (e := 153) (n := 64) (by rw [← words_z]; simp) (by kernel_rfl) (by kernel_rfl) (by kernel_rfl) (by kernel_rfl) (by kernel_rfl) (by kernel_rfl) h'.1
  have hs : Lib.TabIs Tryz.prog W "layers/sha.start" .u32 startZ := tab_of_mem (g := 1) (t := 154) (e := 153) (n := 8) (by rw [← start_z]; simp) (by kernel_rfl) (by kernel_rfl) (by kernel_rfl) (by kernel_rfl) (by kernel_rfl) (by kernel_rfl) h'.1
  have hp : Lib.TabIs Tryz.prog W "internal/strconv.uint64pow10" .u64 Lib.pow10Tab := tab_of_mem (g := 4) (t := 199) (e := 152) (n := 20) (by rw [← pow_z]; simp) (by kernel_rfl) (by kernel_rfl) (by kernel_rfl) (by kernel_rfl) (by kernel_rfl) (by kernel_rfl) h'.1
  refine ⟨fun k hk => ?_, fun k hk => ?_, tz_of_laid h, hp⟩
  · have := hw.cell (g := 2) (by kernel_rfl) k (by show k < 64; exact hk)
    rw [wordsZ_at k hk] at this; exact this
  · have := hs.cell (g := 1) (by kernel_rfl) k (by show k < 8; exact hk)
    rw [startZ_at k hk] at this; exact this

/-- a world that meets the condition -/
noncomputable def laidWorld (os : Os) : World :=
  let w0 := World.laidAll Tryz.prog os [("math/bits.deBruijn32tab", Rows.laid_math_bits_deBruijn32tab), ("math/bits.deBruijn64tab", Rows.laid_math_bits_deBruijn64tab), ("internal/strconv.uint64pow10", Rows.laid_internal_strconv_uint64pow10), ("layers/sha.start", Rows.laid_layers_sha_start), ("layers/sha.words", Rows.laid_layers_sha_words), ("unicode/utf8.acceptRanges", Rows.laid_unicode_utf8_acceptRanges), ("unicode/utf8.first", Rows.laid_unicode_utf8_first)]
  { w0 with heap := w0.heap.modify 0 fun
      | .cells _ t frozen => .cells #[.iface 129 (.agg #[.pointer (some ⟨9, 42, none⟩)])] t frozen
      | o => o }
theorem laid_met (os : Os) : laidMetH Tryz.prog Rows.sumsRow.laid ((laidWorld os).forCall (fun _ _ => 0) ⟨#[], #[.slice none 0 0], []⟩).memory :=
  laidMetH_of_parts3 (fuel := 8) (laidMet_of_run' 8 (by kernel_rfl) (by kernel_rfl)) (by kernel_rfl) (by kernel_rfl)
theorem reads (os : Os) {H : Type} (enc : TypeId × Value → H) : ∃ places, DataW.whole enc Tryz.prog ((laidWorld os).forCall (fun _ _ => 0) ⟨#[], #[.slice none 0 0], []⟩).memory Tryz.f3.params.toList Rows.sumsSpec.vars false #[Value.slice none 0 0].toList 8 = some ([.nil], [], places) :=
  ⟨[], by kernel_rfl⟩

set_option maxRecDepth 100000 in
theorem liftedUpto (os : Os) (started : os.Started) (H : Type) (enc : TypeId × Value → H) (F : Stop.Interp) :
    ReturnsInHanded {} Tryz.checked os 3 .any ((Rows.OpenSpec.upto Rows.sumsSpec).preRow enc Tryz.prog Tryz.f3 Rows.sumsUptoRow.domain false Rows.sumsUptoRow.laid) (((Rows.OpenSpec.upto Rows.sumsSpec).at F).post enc Tryz.prog Tryz.f3 false true false false) := by
  obtain ⟨places, hx⟩ := reads os enc
  refine returnsInHanded_of_row (C := Tryz.checked) (s := Rows.OpenSpec.upto Rows.sumsSpec) own started (by kernel_rfl) Tryz.func3
    (witness_row_atRef (enc := enc) (C := Tryz.checked) false (laidWorld os) #[.slice none 0 0] rfl (by kernel_rfl) (by kernel_rfl) (by kernel_rfl)
      (OpenSpec.preRow_of_cond 8 hx (by kernel_rfl) (fun k hk => by cases hk; kernel_rfl) (by kernel_rfl) (laid_met os))) ?_
  intro W base args ds gs before hval hW _ hcond _ hL hsh _
  have hW' := hW
  obtain ⟨p, q, hA0, hV, rfl, hfz, hnd⟩ := hW
  have hA : DataW.TrodAll enc Tryz.prog W 0 (fun _ => true) true Tryz.f3.params.toList args.toList ds p := hA0
  rw [Tryz.params3] at hA hval
  obtain ⟨v0, d0, rfl, rfl, h0⟩ := trodAll_one hA
  obtain ⟨rfl, rfl⟩ := trodVars_none hV
  have hone : v0.cells.toList = [v0] := by
    obtain ⟨a, len, cap, rfl⟩ := okWide_slice Tryz.underlying22 (hval 0 22 v0 rfl rfl)
    rfl
  obtain ⟨l, A, cap, rfl, hr, ⟨_, hc1, hc2⟩, hl, hs⟩ := open_ents Tryz.underlying22 Tryz.underlying49 (by kernel_rfl) (by kernel_rfl) Tryz.underlying9 Tryz.underlying3 Tryz.underlying3 Tryz.underlying9 hone h0
  clear hA0
  simp only [List.append_nil] at hW'
  have hbulk : Rows.uptoBulk d0 ≤ 1048576 := by
    have h := of_decide_eq_true (hcond _ rfl)
    simp only [List.append_nil, Rows.uptoBulkAll] at h
    omega
  have hstd : Std W := ⟨Tryz.laysM219.s1_3 W hsh⟩
  have hlt : ∀ x ∈ p, x.block < W.heap.size := fun x hx => by simpa using hW'.lt x hx
  have walk := sums_any l A cap W hstd (handle_of_laid hL) (tabs_of_laid hL) hr (by omega) hc1 hc2 (fun c hc => by have := hs c hc; omega)
  refine walk.mono fun e W' ⟨he, hg⟩ => ?_
  subst he
  exact ⟨_, rfl, _, _, _, [], p, [], hW', trodAll_mk1 (shut_bool Tryz.underlying4 _), trodAll_mk1 (Below.trod laidOut (by kernel_rfl) (of_decide_eq_true (by kernel_rfl)) h0 hg hlt), rfl, hg.frame _, fun h => by cases h⟩

theorem saidUpto : Rows.SumsUptoSaid :=
  OpenClaim.holds_of_cond 3 Tryz.f3 rfl rfl rfl rfl rfl rfl rfl ⟨rfl, rfl, rfl, rfl, rfl⟩ rfl rfl rfl rfl rfl (by kernel_rfl) Tryz.func3 (by kernel_rfl)
    (of_decide_eq_true (by kernel_rfl)) (by unfold Func.isWrapper; first | (rw [if_pos (by decide +kernel)]; kernel_rfl) | (rw [if_neg (by decide +kernel)]; exact ⟨rfl, rfl⟩))
    (fun os started H enc _ F => by rw [OpenClaim.pre_eq_preRow]; exact liftedUpto os started H enc F)

theorem plain (f : FuncId) (fn : Func) (hf : Tryz.pinned.checked.prog.funcNamed "layers/layerslaw.Sums" = some f) (hfn : Tryz.pinned.checked.prog.funcs[f]? = some fn) :
    true = Tryz.pinned.checked.prog.looks [] ∧ ∀ (j : Nat) t, fn.params[j]? = some t → Tryz.pinned.checked.prog.wantsStandIn t = false := by
  obtain rfl : f = 3 := Option.some.inj ((show Tryz.prog.funcNamed "layers/layerslaw.Sums" = some 3 by kernel_rfl).symm.trans hf) |>.symm
  obtain rfl : fn = Tryz.f3 := (Option.some.inj (Tryz.func3.symm.trans hfn)).symm
  refine ⟨by kernel_rfl, fun j t ht => ?_⟩
  rw [Tryz.params3] at ht
  have hm : t ∈ [22] := by simpa using Array.mem_of_getElem? ht
  simp only [List.mem_cons, List.mem_nil_iff, or_false, or_self] at hm
  subst hm
  exact (show Tryz.prog.wantsStandIn 22 = false by kernel_rfl)

theorem cardUpto : Rows.SumsUptoCardSaid :=
  Claim7.holds_tied_plain_at .later [] _ _ _ _ saidUpto (fun _ h => by cases h) (by kernel_rfl) (fun _ h => by cases h) sumsUpto_row_tie rfl ⟨rfl, rfl⟩ (by kernel_rfl) rfl plain (by kernel_rfl)
end Go.Proofs.YtafokdidpbainaaGreatDoor.lawSums
