import Derived.Test.YtikdblkfjchjbaaGreatDoorCards
import Derived.Test.YtikdblkfjchjbaaGreatDoorTie
import Derived.Deep.DeepWitnessRowRef
import Derived.Lay
import Derived.Lib.LaidU8
import Derived.Test.YtikdblkfjchjbaaGreatDoorY48
set_option linter.unusedVariables false
set_option linter.unusedSimpArgs false
set_option maxHeartbeats 16000000
set_option maxRecDepth 100000
namespace Go.Proofs.YtikdblkfjchjbaaGreatDoor.lawKnown
open Go.ChangeShapes Go.WideShapes Go.ChangeAt Go.RowKit
open Go.WideMaps Go.WideElems
open Go.ChangeMaps (setBlock shut_map_nil open_string shut_string keptBut_setBlock frozen?_setBlock heap_setBlock_same)
theorem own : ownKnob Tryz.prog.godebug = none := by kernel_rfl
theorem et : Tryz.prog.globalNamed "errors.errorType" = some 1 := by kernel_rfl
theorem og : Tryz.prog.globalNamed "math/bits.deBruijn64tab" = some 9 := by kernel_rfl
theorem oo : Tryz.prog.globalNamed "layers/file.order" = some 0 := by kernel_rfl
theorem ot : (Tryz.prog.globals[0]?).map (·.type) = some 124 := by kernel_rfl
theorem oc : Tryz.prog.cellsOf 9 = 1 := by kernel_rfl
theorem rt : (Tryz.prog.cutTypes.find? (·.1 == "internal/reflectlite.rtype")).map (·.2) = some 189 := by kernel_rfl
theorem laidOut : laidOutB Tryz.prog = true := by kernel_rfl
theorem oneRow : ((List.range 357).filter fun t => Tryz.prog.rowNamed t [101, 114, 114, 111, 114]) = [57] := by kernel_rfl
theorem size : Tryz.prog.types.size = 357 := by kernel_rfl
theorem handle_of_laid {W : World} (h : laidMetH Tryz.prog Rows.knownRow.laid W) : ErrT W := by
 have h' : laidMet Tryz.prog _ W ∧ handlesMet Tryz.prog [("errors.errorType", Rows.laid_errors_errorType)] W := h;obtain ⟨name, u, ty, e1, e2, e3, e4, e5⟩ := h'.2 _ (List.mem_singleton.2 rfl);have en : name = [101, 114, 114, 111, 114] := (Option.some.inj e1).symm;subst en;obtain rfl := Option.some.inj (rt.symm.trans e2);have hm : ty ∈ (List.range 357).filter fun t => Tryz.prog.rowNamed t [101, 114, 114, 111, 114] := List.mem_filter.2 ⟨List.mem_range.2 (by rw [← size]; exact e3), e4⟩
 rw [oneRow] at hm;obtain rfl := List.mem_singleton.1 hm;have hh : typeHandle Tryz.prog 57 = .pointer (some ⟨10, 57, none⟩) := by kernel_rfl
 rw [hh] at e5;unfold ErrT;simpa using World.var?_cell et e5 0
theorem tz_of_laid {W : World} (h : laidMetH Tryz.prog Rows.knownRow.laid W) : Tz W := by
 have h' : laidMet Tryz.prog [("math/bits.deBruijn32tab", Rows.laid_math_bits_deBruijn32tab), ("math/bits.deBruijn64tab", Rows.laid_math_bits_deBruijn64tab), ("internal/strconv.uint64pow10", Rows.laid_internal_strconv_uint64pow10), ("unicode/utf8.acceptRanges", Rows.laid_unicode_utf8_acceptRanges), ("strconv.ErrRange", Rows.laid_strconv_ErrRange), ("strconv.ErrSyntax", Rows.laid_strconv_ErrSyntax), ("layers/file.order", Rows.laid_layers_file_order), ("unicode/utf8.first", Rows.laid_unicode_utf8_first)] W ∧ handlesMet Tryz.prog _ W := h;obtain ⟨g, t, cs, fuel, p, hg, hty, hvar, hd⟩ := Lib.laidMet.reads h'.1 (List.mem_cons_of_mem _ List.mem_cons_self)
 obtain rfl := Option.some.inj (og.symm.trans hg);obtain ⟨fuel', d, q, hdi, he⟩ := Lib.array_elem (show Tryz.prog.underlying t = some (.array 64 5) from by
  obtain rfl := Option.some.inj ((show Tryz.prog.globals[9]?.map (·.type) = some 327 by kernel_rfl).symm.trans hty);exact Tryz.underlying327) hd 7 (by omega)
 have hb' : some d = some (DataW.lit (.int .u8 3)) := hdi.symm.trans rfl;obtain rfl := Option.some.inj hb';rw [show Tryz.prog.cellsOf 5 = 1 by kernel_rfl] at he;obtain ⟨n, hs, hx, _⟩ := DataW.trod_int Tryz.underlying5 he;simp only [Prod.mk.injEq, DataW.lit.injEq, Lit.int.injEq] at hx;obtain rfl := hx.1.2.symm;unfold Tz;rw [World.var?_cell hg hvar 7, ← Array.getElem?_toList];have := congrArg (·[0]?) hs;simp only [List.getElem?_take, List.getElem?_drop] at this;simpa using this
theorem order_of_laid {W : World} (h : laidMetH Tryz.prog Rows.knownRow.laid W) : Ord W := by
 have h' : laidMet Tryz.prog [("math/bits.deBruijn32tab", Rows.laid_math_bits_deBruijn32tab), ("math/bits.deBruijn64tab", Rows.laid_math_bits_deBruijn64tab), ("internal/strconv.uint64pow10", Rows.laid_internal_strconv_uint64pow10), ("unicode/utf8.acceptRanges", Rows.laid_unicode_utf8_acceptRanges), ("strconv.ErrRange", Rows.laid_strconv_ErrRange), ("strconv.ErrSyntax", Rows.laid_strconv_ErrSyntax), ("layers/file.order", Rows.laid_layers_file_order), ("unicode/utf8.first", Rows.laid_unicode_utf8_first)] W ∧ handlesMet Tryz.prog _ W := h
 obtain ⟨g, t, cs, fuel, p, hg, hty, hvar, hd⟩ := Lib.laidMet.reads h'.1 (List.mem_cons_of_mem _ (List.mem_cons_of_mem _ (List.mem_cons_of_mem _ (List.mem_cons_of_mem _ (List.mem_cons_of_mem _ (List.mem_cons_of_mem _ (List.mem_cons_self)))))));obtain rfl := Option.some.inj (oo.symm.trans hg);obtain rfl := Option.some.inj (ot.symm.trans hty);have key : ∀ (i : Nat) (b : List UInt8), i < 8 → (match (Rows.laid_layers_file_order : DataW Unit) with | .agg ds => ds[i]? | _ => none) = some (.lit (.string b)) → W.cell? ⟨0, i, none⟩ = some (.string (S b)) := by
  intro i b hi hb;obtain ⟨fuel', d, q, hdi, he⟩ := Lib.array_elem Tryz.underlying124 hd i hi;have hb' : some d = some (DataW.lit (.string b)) := hdi.symm.trans hb;obtain rfl := Option.some.inj hb';rw [oc] at he;obtain ⟨s, hs, hx, _⟩ := DataW.trod_string Tryz.underlying9 he;simp only [Prod.mk.injEq, DataW.lit.injEq, Lit.string.injEq] at hx;rw [World.var?_cell hg hvar i, ← Array.getElem?_toList];have := congrArg (·[0]?) hs;simp only [List.getElem?_take, List.getElem?_drop] at this;rw [hx.1, S_of];simpa using this
 have hlt : 0 < W.heap.size := q40 W _ (key 0 qco (by omega) rfl);exact ⟨key 0 _ (by omega) rfl, key 1 _ (by omega) rfl, key 2 _ (by omega) rfl, key 3 _ (by omega) rfl, key 4 _ (by omega) rfl, key 5 _ (by omega) rfl, key 6 _ (by omega) rfl, key 7 _ (by omega) rfl, hlt⟩
noncomputable def laidWorld (os : Os) : World :=
 let w0 := World.laidAll Tryz.prog os [("math/bits.deBruijn32tab", Rows.laid_math_bits_deBruijn32tab), ("math/bits.deBruijn64tab", Rows.laid_math_bits_deBruijn64tab), ("internal/strconv.uint64pow10", Rows.laid_internal_strconv_uint64pow10), ("unicode/utf8.acceptRanges", Rows.laid_unicode_utf8_acceptRanges), ("strconv.ErrRange", Rows.laid_strconv_ErrRange), ("strconv.ErrSyntax", Rows.laid_strconv_ErrSyntax), ("layers/file.order", Rows.laid_layers_file_order), ("unicode/utf8.first", Rows.laid_unicode_utf8_first)]
 { w0 with heap := w0.heap.modify 1 fun
  | .cells _ t frozen => .cells #[.iface 189 (.agg #[.pointer (some ⟨10, 57, none⟩)])] t frozen
  | o => o }
theorem laid_met (os : Os) : laidMetH Tryz.prog Rows.knownRow.laid ((laidWorld os).forCall (fun _ _ => 0) ⟨#[], #[.int .i64 0], []⟩).memory :=
 laidMetH_of_parts3 (fuel := 8) (laidMet_of_run' 8 (by kernel_rfl) (by kernel_rfl)) (by kernel_rfl) (by kernel_rfl)
theorem reads (os : Os) {H : Type} (enc : TypeId × Value → H) : ∃ places, DataW.whole enc Tryz.prog ((laidWorld os).forCall (fun _ _ => 0) ⟨#[], #[.int .i64 0], []⟩).memory Tryz.f4.params.toList Rows.knownSpec.vars false #[Value.int .i64 0].toList 8 = some ([.lit (.int .i64 0)], [], places) :=
 ⟨[], by kernel_rfl⟩
theorem lifted (os : Os) (started : os.Started) (H : Type) (enc : TypeId × Value → H) (F : Stop.Interp) :
 ReturnsInHanded {} Tryz.checked os 4 .any ((OpenSpec.ofChange Rows.knownSpec).preRow enc Tryz.prog Tryz.f4 Rows.knownRow.domain false Rows.knownRow.laid) (((OpenSpec.ofChange Rows.knownSpec).at F).post enc Tryz.prog Tryz.f4 false true false false) := by
 obtain ⟨places, hx⟩ := reads os enc;refine returnsInHanded_of_row (C := Tryz.checked) (s := OpenSpec.ofChange Rows.knownSpec) own started (by kernel_rfl) Tryz.func4
  (witness_row_atRef (enc := enc) (C := Tryz.checked) false (laidWorld os) #[.int .i64 0] rfl (by kernel_rfl) (by kernel_rfl) (by kernel_rfl)
    (OpenSpec.preRow_of_cond 8 hx (by kernel_rfl) (fun k hk => by cases hk) (by kernel_rfl) (laid_met os))) ?_
 intro W base args ds gs before hval hW _ hcond _ hL hsh _;have hW' := hW;obtain ⟨p, q, hA0, hV, rfl, hfz, hnd⟩ := hW;have hA : DataW.TrodAll enc Tryz.prog W 0 (fun _ => true) true Tryz.f4.params.toList args.toList ds p := hA0;rw [Tryz.params4] at hA hval;obtain ⟨v0, d0, rfl, rfl, h0⟩ := trodAll_one hA;obtain ⟨rfl, rfl⟩ := trodVars_none hV;obtain ⟨n0, rfl, rfl, rfl, w0⟩ := open_int Tryz.underlying3 (hval 0 3 v0 rfl rfl) h0;clear hA0;simp only [List.append_nil] at hW';have hb : ∀ {n : Int}, (Lit.int .i64 n).wf = true → -9223372036854775808 ≤ n ∧ n ≤ 9223372036854775807 := by
  intro n h;have h' : (decide (IntKind.i64.min ≤ n) && decide (n ≤ IntKind.i64.max)) = true := h;rw [Bool.and_eq_true, decide_eq_true_eq, decide_eq_true_eq] at h';exact h'
 have hstd : Std W := ⟨Tryz.laysM219.s1_3 W hsh⟩;have walk := qyf n0 W hstd (tz_of_laid hL) (handle_of_laid hL) (order_of_laid hL) (hb w0).1 (hb w0).2;refine walk.mono fun e W' ⟨he, hg⟩ => ?_
 subst he;exact ⟨_, rfl, _, _, _, [], [], [], hW', trodAll_mk1 (shut_bool Tryz.underlying4 _), trodAll_mk1 (shut_int Tryz.underlying3 w0), rfl, hg.frame _, fun h => by cases h⟩
theorem said : Rows.KnownSaid :=
 OpenClaim.holds_of_cond 4 Tryz.f4 rfl rfl rfl rfl rfl rfl rfl ⟨rfl, rfl, rfl, rfl, rfl⟩ rfl rfl rfl rfl rfl (by kernel_rfl) Tryz.func4 (by kernel_rfl)
  (of_decide_eq_true (by kernel_rfl)) (by unfold Func.isWrapper; first | (rw [if_pos (by decide +kernel)]; kernel_rfl) | (rw [if_neg (by decide +kernel)]; exact ⟨rfl, rfl⟩))
  (fun os started H enc _ F => by rw [OpenClaim.pre_eq_preRow]; exact lifted os started H enc F)
theorem plain (f : FuncId) (fn : Func) (hf : Tryz.pinned.checked.prog.funcNamed "layers/layerskeep.Known" = some f) (hfn : Tryz.pinned.checked.prog.funcs[f]? = some fn) :
 true = Tryz.pinned.checked.prog.looks [] ∧ ∀ (j : Nat) t, fn.params[j]? = some t → Tryz.pinned.checked.prog.wantsStandIn t = false := by
 obtain rfl : f = 4 := Option.some.inj ((show Tryz.prog.funcNamed "layers/layerskeep.Known" = some 4 by kernel_rfl).symm.trans hf) |>.symm
 obtain rfl : fn = Tryz.f4 := (Option.some.inj (Tryz.func4.symm.trans hfn)).symm;refine ⟨by kernel_rfl, fun j t ht => ?_⟩;rw [Tryz.params4] at ht;have hm : t ∈ [3] := by simpa using Array.mem_of_getElem? ht
 have hi : Tryz.prog.wantsStandIn 3 = false := by kernel_rfl
 simp only [List.mem_cons, List.mem_nil_iff, or_false] at hm;subst hm;exact hi
theorem card : Rows.KnownCardSaid :=
 Claim7.holds_tied_plain_at .later [] _ _ _ _ said (fun _ h => by cases h) (by kernel_rfl) (fun _ h => by cases h) known_row_tie rfl ⟨rfl, rfl⟩ (by kernel_rfl) rfl plain (by kernel_rfl)
end Go.Proofs.YtikdblkfjchjbaaGreatDoor.lawKnown
