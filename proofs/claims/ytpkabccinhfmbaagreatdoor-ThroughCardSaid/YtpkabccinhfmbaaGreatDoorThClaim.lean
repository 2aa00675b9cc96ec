/-
  Proved: layerskeep.Through returns true for every two lists of raw things, and leaves both as they were.
  Conditions: the listed package-level variables hold what the program's text lays there (tied by the given text).
-/
import Derived.Test.YtpkabccinhfmbaaGreatDoorCards
import Derived.Test.YtpkabccinhfmbaaGreatDoorTie
import Derived.ProofKit
import Derived.OpenShut
import Derived.Deep.DeepHandedRow
import Derived.Deep.DeepWitnessRowRef
import Derived.Carry
import Derived.Lay
import Derived.LaidHandle
import Derived.Lib.LaidU8
import Derived.Test.YtpkabccinhfmbaaGreatDoorY24
import Derived.Test.YtpkabccinhfmbaaGreatDoorY26
set_option linter.unusedVariables false
set_option linter.unusedSimpArgs false
namespace Go.Proofs.YtpkabccinhfmbaaGreatDoor.lawThrough
open Go.ChangeShapes Go.WideShapes Go.ChangeAt Go.RowKit
open Go.WideMaps Go.WideElems
open Go.ChangeMaps (setBlock shut_map_nil open_string shut_string keptBut_setBlock frozen?_setBlock heap_setBlock_same)

theorem own : ownKnob Tryz.prog.godebug = none := by kernel_rfl
theorem et : Tryz.prog.globalNamed "errors.errorType" = some 0 := by kernel_rfl
theorem og : Tryz.prog.globalNamed "math/bits.deBruijn64tab" = some 8 := by kernel_rfl
theorem rt : (Tryz.prog.cutTypes.find? (·.1 == "internal/reflectlite.rtype")).map (·.2) = some 118 := by kernel_rfl
theorem laidOut : laidOutB Tryz.prog = true := by kernel_rfl
theorem oneRow : ((List.range 251).filter fun t => Tryz.prog.rowNamed t [101, 114, 114, 111, 114]) = [47] := by kernel_rfl
theorem size : Tryz.prog.types.size = 251 := by kernel_rfl

/-- what the condition gives a walk: the handle -/
theorem handle_of_laid {W : World} (h : laidMetH Tryz.prog Rows.throughRow.laid W) : ErrT W := by
  have h' : laidMet Tryz.prog _ W ∧ handlesMet Tryz.prog [("errors.errorType", Rows.laid_errors_errorType)] W := h
  obtain ⟨name, u, ty, e1, e2, e3, e4, e5⟩ := h'.2 _ (List.mem_singleton.2 rfl)
  have en : name = [101, 114, 114, 111, 114] := (Option.some.inj e1).symm
  subst en
  obtain rfl := Option.some.inj (rt.symm.trans e2)
  have hm : ty ∈ (List.range 251).filter fun t => Tryz.prog.rowNamed t [101, 114, 114, 111, 114] := List.mem_filter.2 ⟨List.mem_range.2 (by rw [← size]; exact e3), e4⟩
  rw [oneRow] at hm
  obtain rfl := List.mem_singleton.1 hm
  have hh : typeHandle Tryz.prog 47 = .pointer (some ⟨9, 47, none⟩) := by kernel_rfl
  rw [hh] at e5
  unfold ErrT
  simpa using World.var?_cell et e5 0

/-- .. and the one cell of a table -/
theorem tz_of_laid {W : World} (h : laidMetH Tryz.prog Rows.throughRow.laid W) : Tz W := by
  have h' : laidMet Tryz.prog [("math/bits.deBruijn32tab", Rows.laid_math_bits_deBruijn32tab), ("math/bits.deBruijn64tab", Rows.laid_math_bits_deBruijn64tab), ("internal/strconv.uint64pow10", Rows.laid_internal_strconv_uint64pow10), ("unicode/utf8.acceptRanges", Rows.laid_unicode_utf8_acceptRanges), ("strconv.ErrRange", Rows.laid_strconv_ErrRange), ("strconv.ErrSyntax", Rows.laid_strconv_ErrSyntax), ("unicode/utf8.first", Rows.laid_unicode_utf8_first)] W ∧ handlesMet Tryz.prog _ W := h
  obtain ⟨g, t, cs, fuel, p, hg, hty, hvar, hd⟩ := Lib.laidMet.reads h'.1 (List.mem_cons_of_mem _ List.mem_cons_self)
  obtain rfl := Option.some.inj (og.symm.trans hg)
  obtain ⟨fuel', d, q, hdi, he⟩ := Lib.array_elem (show Tryz.prog.underlying t = some (.array 64 5) from by
    obtain rfl := Option.some.inj ((show Tryz.prog.globals[8]?.map (·.type) = some 224 by kernel_rfl).symm.trans hty)
    exact Tryz.underlying224) hd 7 (by omega)
  have hb' : some d = some (DataW.lit (.int .u8 3)) := hdi.symm.trans rfl
  obtain rfl := Option.some.inj hb'
  rw [show Tryz.prog.cellsOf 5 = 1 by kernel_rfl] at he
  obtain ⟨n, hs, hx, _⟩ := DataW.trod_int Tryz.underlying5 he
  simp only [Prod.mk.injEq, DataW.lit.injEq, Lit.int.injEq] at hx
  obtain rfl := hx.1.2.symm
  unfold Tz
  rw [World.var?_cell hg hvar 7, ← Array.getElem?_toList]
  have := congrArg (·[0]?) hs
  simp only [List.getElem?_take, List.getElem?_drop] at this
  simpa using this

/-- a world that meets the condition -/
noncomputable def laidWorld (os : Os) : World :=
  let w0 := World.laidAll Tryz.prog os [("math/bits.deBruijn32tab", Rows.laid_math_bits_deBruijn32tab), ("math/bits.deBruijn64tab", Rows.laid_math_bits_deBruijn64tab), ("internal/strconv.uint64pow10", Rows.laid_internal_strconv_uint64pow10), ("unicode/utf8.acceptRanges", Rows.laid_unicode_utf8_acceptRanges), ("strconv.ErrRange", Rows.laid_strconv_ErrRange), ("strconv.ErrSyntax", Rows.laid_strconv_ErrSyntax), ("unicode/utf8.first", Rows.laid_unicode_utf8_first)]
  { w0 with heap := w0.heap.modify 0 fun
      | .cells _ t frozen => .cells #[.iface 118 (.agg #[.pointer (some ⟨9, 47, none⟩)])] t frozen
      | o => o }
theorem laid_met (os : Os) : laidMetH Tryz.prog Rows.throughRow.laid ((laidWorld os).forCall (fun _ _ => 0) ⟨#[], #[.slice none 0 0, .slice none 0 0], []⟩).memory :=
  laidMetH_of_parts3 (fuel := 8) (laidMet_of_run' 8 (by kernel_rfl) (by kernel_rfl)) (by kernel_rfl) (by kernel_rfl)
theorem reads (os : Os) {H : Type} (enc : TypeId × Value → H) : ∃ places, DataW.whole enc Tryz.prog ((laidWorld os).forCall (fun _ _ => 0) ⟨#[], #[.slice none 0 0, .slice none 0 0], []⟩).memory Tryz.f3.params.toList Rows.throughSpec.vars false #[Value.slice none 0 0, Value.slice none 0 0].toList 8 = some ([.nil, .nil], [], places) :=
  ⟨[], by kernel_rfl⟩

set_option maxRecDepth 100000 in
theorem lifted (os : Os) (started : os.Started) (H : Type) (enc : TypeId × Value → H) (F : Stop.Interp) :
    ReturnsInHanded {} Tryz.checked os 3 .any ((OpenSpec.ofChange Rows.throughSpec).preRow enc Tryz.prog Tryz.f3 Rows.throughRow.domain false Rows.throughRow.laid) (((OpenSpec.ofChange Rows.throughSpec).at F).post enc Tryz.prog Tryz.f3 false true false false) := by
  obtain ⟨places, hx⟩ := reads os enc
  refine returnsInHanded_of_row (C := Tryz.checked) (s := OpenSpec.ofChange Rows.throughSpec) own started (by kernel_rfl) Tryz.func3
    (witness_row_atRef (enc := enc) (C := Tryz.checked) false (laidWorld os) #[.slice none 0 0, .slice none 0 0] rfl (by kernel_rfl) (by kernel_rfl) (by kernel_rfl)
      (OpenSpec.preRow_of_cond 8 hx (by kernel_rfl) (fun k hk => by cases hk) (by kernel_rfl) (laid_met os))) ?_
  intro W base args ds gs before hval hW _ hcond _ hL hsh _
  have hW' := hW
  obtain ⟨p, q, hA0, hV, rfl, hfz, hnd⟩ := hW
  have hA : DataW.TrodAll enc Tryz.prog W 0 (fun _ => true) true Tryz.f3.params.toList args.toList ds p := hA0
  rw [Tryz.params3] at hA hval
  obtain ⟨v0, v1, d0, d1, p0, p1, rfl, rfl, rfl, h0, h1⟩ := trodAll_two hA
  obtain ⟨rfl, rfl⟩ := trodVars_none hV
  have hv0 := hval 0 22 v0 rfl rfl
  have hv1 := hval 1 22 v1 rfl rfl
  have ho0 : v0.cells.toList = [v0] := by obtain ⟨a, len, cap, rfl⟩ := okWide_slice Tryz.underlying22 hv0; rfl
  have ho1 : v1.cells.toList = [v1] := by obtain ⟨a, len, cap, rfl⟩ := okWide_slice Tryz.underlying22 hv1; rfl
  obtain ⟨la, A, capA, rfl, ra, hla, sa, ia⟩ := open_things Tryz.underlying22 Tryz.underlying44 (by kernel_rfl) (by kernel_rfl) Tryz.underlying3 Tryz.underlying3 Tryz.underlying3 Tryz.underlying9 ho0 h0
  obtain ⟨lb, B, capB, rfl, rb, hlb, sb, ib⟩ := open_things Tryz.underlying22 Tryz.underlying44 (by kernel_rfl) (by kernel_rfl) Tryz.underlying3 Tryz.underlying3 Tryz.underlying3 Tryz.underlying9 ho1 h1
  clear hA0
  simp only [List.append_nil] at hW'
  have hstd : Std W := ⟨Tryz.laysM219.s1_3 W hsh⟩
  have hlt : ∀ x ∈ p0 ++ p1, x.block < W.heap.size := fun x hx => by simpa using hW'.lt x hx
  have walk := through_any la lb A B capA capB W hstd (tz_of_laid hL) (handle_of_laid hL) ra rb (Nat.le_trans hla (by decide)) (Nat.le_trans hlb (by decide)) (fun c hc => Nat.le_trans (sa c hc) (by decide)) (fun c hc => Nat.le_trans (sb c hc) (by decide)) ia ib
  refine walk.mono fun e W' ⟨he, hg⟩ => ?_
  subst he
  exact ⟨_, rfl, _, _, _, [], p0 ++ p1, [], hW', trodAll_mk1 (shut_bool Tryz.underlying4 _), trodAll_mk2 (Below.trod laidOut (by kernel_rfl) (of_decide_eq_true (by kernel_rfl)) h0 hg (fun x hx => hlt x (List.mem_append_left _ hx))) (Below.trod laidOut (by kernel_rfl) (of_decide_eq_true (by kernel_rfl)) h1 hg (fun x hx => hlt x (List.mem_append_right _ hx))), rfl, hg.frame _, fun h => by cases h⟩

theorem said : Rows.ThroughSaid :=
  OpenClaim.holds_of_cond 3 Tryz.f3 rfl rfl rfl rfl rfl rfl rfl ⟨rfl, rfl, rfl, rfl, rfl⟩ rfl rfl rfl rfl rfl (by kernel_rfl) Tryz.func3 (by kernel_rfl)
    (of_decide_eq_true (by kernel_rfl)) (by unfold Func.isWrapper; first | (rw [if_pos (by decide +kernel)]; kernel_rfl) | (rw [if_neg (by decide +kernel)]; exact ⟨rfl, rfl⟩))
    (fun os started H enc _ F => by rw [OpenClaim.pre_eq_preRow]; exact lifted os started H enc F)

theorem plain (f : FuncId) (fn : Func) (hf : Tryz.pinned.checked.prog.funcNamed "layers/layerskeep.Through" = some f) (hfn : Tryz.pinned.checked.prog.funcs[f]? = some fn) :
    true = Tryz.pinned.checked.prog.looks [] ∧ ∀ (j : Nat) t, fn.params[j]? = some t → Tryz.pinned.checked.prog.wantsStandIn t = false := by
  obtain rfl : f = 3 := Option.some.inj ((show Tryz.prog.funcNamed "layers/layerskeep.Through" = some 3 by kernel_rfl).symm.trans hf) |>.symm
  obtain rfl : fn = Tryz.f3 := (Option.some.inj (Tryz.func3.symm.trans hfn)).symm
  refine ⟨by kernel_rfl, fun j t ht => ?_⟩
  rw [Tryz.params3] at ht
  have hm : t ∈ [22, 22] := by simpa using Array.mem_of_getElem? ht
  simp only [List.mem_cons, List.mem_nil_iff, or_false] at hm
  rcases hm with rfl | rfl
  · exact (show Tryz.prog.wantsStandIn 22 = false by kernel_rfl)
  · exact (show Tryz.prog.wantsStandIn 22 = false by kernel_rfl)

theorem card : Rows.ThroughCardSaid :=
  Claim7.holds_tied_plain_at .later [] _ _ _ _ said (fun _ h => by cases h) (by kernel_rfl) (fun _ h => by cases h) through_row_tie rfl ⟨rfl, rfl⟩ (by kernel_rfl) rfl plain (by kernel_rfl)
end Go.Proofs.YtpkabccinhfmbaaGreatDoor.lawThrough
