/-
  The document's answer: a FROM: the walk.
  The last stage in memory: a variable more, a step more.
  Plain words: what an instruction leaves of the bounds on stages; bounds of instructions. No program in sight.
  Plain words: which stages are needed. No program in sight.
  Plain words: what a file that was parsed is. No program in sight.
  Plain words: which stages are needed, found from the last one down. No program in sight.
  The document's answer: a word: the walk.
  The document's answer: a line: the walk.
-/
import Derived.Deep.RegionLaw
import Derived.Deep.AppendLies
import Derived.Deep.RegionWith
import Derived.Test.YtflggoddfjmljaaDoorY01
import Derived.Test.YtflggoddfjmljaaDoorY02
import Derived.Test.YtflggoddfjmljaaDoorY04
set_option linter.unusedVariables false
set_option linter.unusedSimpArgs false
namespace Go.Proofs.YtflggoddfjmljaaDoor
open Go.RowKit

theorem step_append_row {P : Program} {ops : Array Oper} {o : Oper} {a : Act} {w : World} {K : Act → World → Prop} {Q : Exit → Act → World → Prop} {E : Prop} (hgd : o.guard = none) (s x : Operand) (t : TypeId)
    (ho : o.op = .call { callee := .builtin .append, args := #[s, x], argTypes := #[t, t] })
    (base : Nat) (e : TypeId) (i : TypeInfo) (z : Value) (size bytes : Nat) (ht : P.underlying t = some (.slice e)) (hi : P.info? e = some i) (hz : i.zero = some z)
    (hsize : i.size = size) (hby : i.bytes = bytes) (hzs : z.cells.size = size) (hsz : 0 < size)
    (v : Value) (n : Nat) (xs : List Value) (hs : a.eval s = v) (hown : w.ownsRow base e size v n xs)
    (v2 : Value) (m b2 : Nat) (ys : List Value) (hx : a.eval x = v2) (hown2 : w.ownsRow b2 e size v2 m ys) (h1 : ∀ u ∈ ys, u.oneCell' = true)
    (h63 : n + m ≤ maxLen) (hbytes : (n + m) * bytes ≤ 140737488355328) (hbase : base ≤ w.heap.size)
    (h : ∀ ao c w', w'.ownsRow base e size (.slice ao (n + m) c) (n + m) (xs ++ ys) → w.grownBy w' v.ownBlock → K (a.put o.dst (.slice ao (n + m) c)) w') :
    if Region.wanted o (yielded ops a.tmps) = true then Oper.wp P o a w K Q else E := by
  have hw : Region.wanted o (yielded ops a.tmps) = true := by simp [Region.wanted, hgd]
  rw [if_pos hw]
  rcases hown2.2 with ⟨rfl, rfl⟩ | ⟨g, cap, cur, rfl, r⟩
  · have hy : ys = [] := List.eq_nil_of_length_eq_zero (by simpa using hown2.1)
    subst hy
    have hrun := run_append_owned_none (P := P) (w := w) base t o.type e i size ht hi v n xs hown
    obtain ⟨ao, c, rfl⟩ := ownsRow_form hown
    unfold Oper.wp
    simp [execOp, ho, resolve, invoke, builtin, hs, hx, hrun, Result.andThen]
    exact h ao c w (by simpa using hown) ⟨rfl, rfl, rfl, Nat.le_refl _, fun _ _ _ => rfl⟩
  · refine wp_append_own w s x t ho base e i z size bytes ht hi hz hsize hby hzs hsz v n xs hs hown ⟨g, 0, none⟩ m cap ys hx hown2.1 (hown2.cells (g := g) rfl) h1 h63 hbytes hbase (fun v' w' h2 h3 _ => ?_)
    obtain ⟨ao, c, rfl⟩ := ownsRow_form h2
    exact h ao c w' h2 h3
theorem KeepT.setNew {T : TypeId} {w wz : World} (h : KeepT T w wz) {g : Nat} (hg : w.heap.size ≤ g) (o : Nat) (u : Value) : KeepT T w (wz.setCell ⟨g, o, none⟩ u) := by
  intro k cur e
  have hk := (Array.getElem?_eq_some_iff.1 e).1
  rw [heap_setCell_other wz ⟨g, o, none⟩ k u (by show k ≠ g; omega)]
  exact h k cur e
/-- what 'from' and 'step' leave: all blocks of other types than a stage's, a step's, a text's -/
def KeepX (w w' : World) : Prop := ∀ T, T ≠ tStage → T ≠ tStep → T ≠ tText → KeepT T w w'
theorem KeepX.below {w w' : World} (h : Below w.heap.size w w') : KeepX w w' := fun _ _ _ _ => KeepT.below h
theorem StagesR.push {B : Nat} {w wx w2 : World} {st : List StageG} {x : StageG} {ao ao' : Option Addr} {c c' : Nat} {cs : List Value} {sv vv : Value}
    (hown : w.ownsRow B tStage 4 (.slice ao st.length c) st.length cs) (hsc : StageCells B w.heap.size w st cs) (hb : Below w.heap.size w wx) (hg : wx.grownBy w2 (Value.slice ao st.length c).ownBlock)
    (hx : StageAt w.heap.size wx.heap.size wx x sv vv) (hown2 : w2.ownsRow B tStage 4 (.slice ao' (st.length + 1) c') (st.length + 1) (cs ++ [.string (S x.name), .int .i64 x.base, sv, vv])) (hB : B ≤ w.heap.size) :
    StagesR B w2 (st ++ [x]) ao' c' ∧ KeepX w w2 := by
  have hownx := ownsRow_below hown hb
  have hT : ∀ T, T ≠ tStage → KeepT T wx w2 := fun T h => KeepT.grown hg hownx (fun e => h e.symm)
  have hT' : ∀ T, T ≠ tStage → KeepT T w w2 := fun T h => (KeepT.below hb).trans (hT T h)
  refine ⟨⟨w.heap.size, st, [x], cs, [.string (S x.name), .int .i64 x.base, sv, vv], rfl, by simp, by simp, Nat.le_trans hb.size hg.size, hB, ?_, ?_, ?_⟩, fun T h _ _ => hT' T h⟩
  · rw [List.length_append]; exact hown2
  · exact hsc.stays (hT' _ (by decide)) (hT' _ (by decide)) (fun g cur _ e => hT' tStep (by decide) g cur e) (fun g cur _ e => hT' tText (by decide) g cur e)
  · exact ⟨sv, vv, [], rfl, (hx.stays (hT _ (by decide)) (hT _ (by decide)) (fun g cur _ e => hT tStep (by decide) g cur e) (fun g cur _ e => hT tText (by decide) g cur e)).mono (Nat.le_refl _) hg.size, rfl⟩
theorem own_lt {w : World} {base : Nat} {e : TypeId} {size : Nat} {v : Value} {n : Nat} {xs : List Value} (h : w.ownsRow base e size v n xs) : ∀ k, v.ownBlock = some k → k < w.heap.size := by
  rcases h.2 with ⟨rfl, _⟩ | ⟨g', cap, cur, rfl, hb, hh, _⟩
  · simp [Value.ownBlock]
  · intro k hk; simp only [Value.ownBlock, Option.some.injEq] at hk; subst hk; exact (Array.getElem?_eq_some_iff.1 hh).1
theorem own_new {w : World} {base : Nat} {e : TypeId} {size : Nat} {v : Value} {n : Nat} {xs : List Value} (h : w.ownsRow base e size v n xs) : some w.heap.size ≠ v.ownBlock := fun e => by have := own_lt h _ e.symm; omega
theorem BlkT.alloc {w : World} {g : Nat} {t : TypeId} (h : BlkT w g t) (o : Obj) : BlkT (w.alloc o) g t := h.after ((Below.refl _ _).alloc (Nat.le_refl _) o)
theorem BlkT.far {w : World} {g g' o : Nat} {t : TypeId} (h : BlkT w g t) (u : Value) (hne : g ≠ g') : BlkT (w.setCell ⟨g', o, none⟩ u) g t := by
  obtain ⟨cs, h⟩ := h
  exact ⟨cs, by rw [heap_setCell_other w _ g u hne]; exact h⟩
theorem KeepT.setT {T e : TypeId} {w : World} {g : Nat} (hb : BlkT w g e) (hne : e ≠ T) (o : Nat) (u : Value) : KeepT T w (w.setCell ⟨g, o, none⟩ u) := by
  obtain ⟨cs, h⟩ := hb
  exact KeepT.setCell h hne o u
theorem BlkT.drew {w : World} {g : Nat} {t : TypeId} (h : BlkT w g t) : BlkT w.drew g t := h
theorem KeepX.trans {a b c : World} (h : KeepX a b) (k : KeepX b c) : KeepX a c := fun T h1 h2 h3 => (h T h1 h2 h3).trans (k T h1 h2 h3)
/-- a variable of a struct's four cells -/
def Blk4 (w : World) (g : Nat) (a b c d : Value) : Prop := ∃ t, w.heap[g]? = some (Obj.cells #[a, b, c, d] t (0, 0))
theorem Blk4.new (w : World) (a b c d : Value) (t : TypeId) : Blk4 (w.alloc (.cells #[a, b, c, d] t)) w.heap.size a b c d := ⟨t, heap_alloc_new w _⟩
theorem Blk4.lt {w : World} {g : Nat} {a b c d : Value} (h : Blk4 w g a b c d) : g < w.heap.size := by
  obtain ⟨t, h⟩ := h
  exact (Array.getElem?_eq_some_iff.1 h).1
theorem Blk4.drew {w : World} {g : Nat} {a b c d : Value} (h : Blk4 w g a b c d) : Blk4 w.drew g a b c d := h
theorem Blk4.after {w w' : World} {g : Nat} {a b c d : Value} (h : Blk4 w g a b c d) (hb : Below w.heap.size w w') : Blk4 w' g a b c d := by
  have hl := h.lt
  obtain ⟨t, h⟩ := h
  exact ⟨t, (hb.block g hl).trans h⟩
theorem Blk4.grown {w w' : World} {g : Nat} {a b c d : Value} {row : Option Nat} (h : Blk4 w g a b c d) (hg : w.grownBy w' row) (hne : some g ≠ row) : Blk4 w' g a b c d := by
  have hl := h.lt
  obtain ⟨t, h⟩ := h
  exact ⟨t, (hg.block g hl hne).trans h⟩
theorem Blk4.facts {w : World} {g : Nat} {a b c d : Value} (h : Blk4 w g a b c d) : w.cell? ⟨g, 0, none⟩ = some a ∧ w.cell? ⟨g, 1, none⟩ = some b ∧ w.cell? ⟨g, 2, none⟩ = some c ∧ w.cell? ⟨g, 3, none⟩ = some d ∧ w.frozen? ⟨g, 0, none⟩ = false ∧ w.frozen? ⟨g, 1, none⟩ = false ∧ w.frozen? ⟨g, 2, none⟩ = false ∧ w.frozen? ⟨g, 3, none⟩ = false := by
  obtain ⟨t, h⟩ := h
  refine ⟨?_, ?_, ?_, ?_, frozen_of_row w g 0 _ t h, frozen_of_row w g 1 _ t h, frozen_of_row w g 2 _ t h, frozen_of_row w g 3 _ t h⟩
  · rw [cell_of_row w g 0 _ t (0, 0) h]; rfl
  · rw [cell_of_row w g 1 _ t (0, 0) h]; rfl
  · rw [cell_of_row w g 2 _ t (0, 0) h]; rfl
  · rw [cell_of_row w g 3 _ t (0, 0) h]; rfl
theorem Blk4.set3 {w : World} {g : Nat} {a b c d : Value} (h : Blk4 w g a b c d) (u : Value) : Blk4 (w.setCell ⟨g, 3, none⟩ u) g a b c u := by
  obtain ⟨t, h⟩ := h
  exact ⟨t, by rw [heap_setCell_same w g _ _ t u h]; rfl⟩
theorem Blk4.set2 {w : World} {g : Nat} {a b c d : Value} (h : Blk4 w g a b c d) (u : Value) : Blk4 (w.setCell ⟨g, 2, none⟩ u) g a b u d := by
  obtain ⟨t, h⟩ := h
  exact ⟨t, by rw [heap_setCell_same w g _ _ t u h]; rfl⟩
theorem Blk4.set1 {w : World} {g : Nat} {a b c d : Value} (h : Blk4 w g a b c d) (u : Value) : Blk4 (w.setCell ⟨g, 1, none⟩ u) g a u c d := by
  obtain ⟨t, h⟩ := h
  exact ⟨t, by rw [heap_setCell_same w g _ _ t u h]; rfl⟩
theorem Blk4.far {w : World} {g g' o : Nat} {a b c d : Value} (h : Blk4 w g a b c d) (u : Value) (hne : g ≠ g') : Blk4 (w.setCell ⟨g', o, none⟩ u) g a b c d := by
  obtain ⟨t, h⟩ := h
  exact ⟨t, by rw [heap_setCell_other w _ g u hne]; exact h⟩
theorem strs_one (l : List (List UInt8)) : ∀ u ∈ strs l, u.oneCell' = true := by
  intro u hu
  simp only [strs, List.mem_map] at hu
  obtain ⟨x, _, rfl⟩ := hu
  rfl
theorem cells4_at (w : World) (a b c d : Value) (t : TypeId) (B : Nat) (hB : w.heap.size = B) : ∀ j u, [a, b, c, d][j]? = some u → (w.alloc (.cells #[a, b, c, d] t)).cell? ((⟨B, 0, none⟩ : Addr).add j) = some u := by
  subst hB
  intro j u h
  match j, h with
  | 0, h => simp at h; subst h; simp [Addr.add]
  | 1, h => simp at h; subst h; simp [Addr.add]
  | 2, h => simp at h; subst h; simp [Addr.add]
  | 3, h => simp at h; subst h; simp [Addr.add]
theorem calledB_cases (st : List StageG) (x : List UInt8) : calledB st x = -1 ∨ ∃ k : Nat, k < st.length ∧ calledB st x = k := by
  unfold calledB
  cases h : st.findIdx? (fun y => y.name == x) with
  | none => exact .inl rfl
  | some k =>
    obtain ⟨hk, _⟩ := List.findIdx?_eq_some_iff_getElem.1 h
    exact .inr ⟨k, hk, rfl⟩
theorem varsOf_at {st : List StageG} {k : Nat} (h : k < st.length) : varsOf st (k : Int) = st[k].vars := by simp [varsOf, h]
theorem varsOf_neg {st : List StageG} {k : Int} (h : k < 0) : varsOf st k = [] := by unfold varsOf; rw [if_neg (by omega)]

/-- what 'from' and 'step' answer -/
def stagesOut (B : Nat) (w' : World) (e : Ending) : Except Flt (List StageG) → Prop
  | .error (f, p) => e = .returned (.tuple #[.slice none 0 0, faultV f p])
  | .ok st => ∃ ao c, e = .returned (.tuple #[.slice ao st.length c, faultV 0 (-1)]) ∧ StagesR B w' st ao c
theorem stagesOut_err {B : Nat} {w' : World} {e : Ending} {f p : Nat} {r : Except Flt (List StageG)} (h : r = .error (f, p)) (he : e = .returned (.tuple #[.slice none 0 0, faultV f p])) : stagesOut B w' e r := by subst h; exact he
theorem stagesOut_ok {B : Nat} {w' : World} {e : Ending} {st : List StageG} {r : Except Flt (List StageG)} {ao : Option Addr} {n c : Nat} (h : r = .ok st) (hn : n = st.length) (he : e = .returned (.tuple #[.slice ao n c, faultV 0 (-1)])) (hw : StagesR B w' st ao c) : stagesOut B w' e r := by subst h; subst hn; exact ⟨ao, c, he, hw⟩
/-- the fault's variable is new: what is written there turns nothing else -/
theorem two_new {B : Nat} {w wz : World} {st : List StageG} {ao : Option Addr} {c g : Nat} (hB : B ≤ w.heap.size) (h : Below B w wz) (k : KeepX w wz) (hg : w.heap.size ≤ g) (u1 u2 : Value) :
    Below B w ((wz.setCell ⟨g, 0, none⟩ u1).setCell ⟨g, 1, none⟩ u2) ∧ KeepX w ((wz.setCell ⟨g, 0, none⟩ u1).setCell ⟨g, 1, none⟩ u2) :=
  ⟨Below.setCell (Below.setCell h (Nat.le_trans hB hg) _) (Nat.le_trans hB hg) _, fun T a b c => ((k T a b c).setNew hg 0 u1).setNew hg 1 u2⟩
theorem StagesR.two {B : Nat} {w : World} {st : List StageG} {ao : Option Addr} {c g : Nat} (h : StagesR B w st ao c) (hT : BlkT w g tFault) (u1 u2 : Value) : StagesR B ((w.setCell ⟨g, 0, none⟩ u1).setCell ⟨g, 1, none⟩ u2) st ao c :=
  h.keep (KeepT.two hT (by decide) _ _) (KeepT.two hT (by decide) _ _) (KeepT.two hT (by decide) _ _) (KeepT.two hT (by decide) _ _) (KeepT.two hT (by decide) _ _) (by simp)

set_option maxRecDepth 100000 in
set_option maxHeartbeats 6000000 in
theorem fromR_a (st : List StageG) (ws : List WordG) (B : Nat) (ao : Option Addr) (b o c d : Nat) (w : World) (hst : StagesR B w st ao c) (hB : B ≤ w.heap.size) (hs5 : st.length ≤ 5) (hv5 : ∀ x ∈ st, x.vars.length ≤ 100) (hws : WordsR w (some ⟨b, o, none⟩) ws) (hg : GoodW ws) (hl2 : 2 ≤ ws.length) (hl2' : ws.length = 2) (hl4 : ws.length ≤ 4) (hd : ws.length ≤ d) (hd2 : d ≤ maxLen) :
    Calls Tryd.prog 13 #[.slice ao st.length c, .slice (some ⟨b, o, none⟩) ws.length d] w fun e w' => stagesOut B w' e (fromB st ws) ∧ Below B w w' ∧ KeepX w w' := by
  unfold maxLen at hd2
  obtain ⟨i0, hi0, hz0, hz1, hz2⟩ := info_parts (show (Tryd.prog.info? 58).map (fun i => (i.zero, i.size, i.bytes)) = some (some (.agg #[.string ByteArray.empty, .int .i64 0, .slice none 0 0, .slice none 0 0]), 4, 72) by kernel_rfl)
  obtain ⟨i1, hi1, hz3, hz4, hz5⟩ := info_parts (show (Tryd.prog.info? 9).map (fun i => (i.zero, i.size, i.bytes)) = some (some (.string ByteArray.empty), 1, 16) by kernel_rfl)
  obtain ⟨scs, hso, hsc⟩ := hst.all
  have hrs := (RdT.of_own hso).rd
  have hnm : ∀ k (h : k < st.length), scs[k * 4]? = some (.string (S st[k].name)) := fun k h => by
    obtain ⟨_, _, h1, _⟩ := hsc.get k h; exact h1
  have hsl := hsc.len
  obtain ⟨hb, a0, c0, m0, m0', r0⟩ := hws.at 0 (by omega)
  obtain ⟨-, a1, c1, m1, m1', r1⟩ := hws.at 1 (by omega)
  have hg1 := hg.nth 1 (by omega)
  have HW := Lib.hid hws
  have HR := Lib.hid hrs
  have HN := Lib.hid hnm
  have HSL := Lib.hid hsl
  have HR1 := Lib.hid r1
  have HG1 := Lib.hid hg1
  have HG := Lib.hid hg
  have HSO := Lib.hid hso
  have HSC := Lib.hid hsc
  have HV5 := Lib.hid hv5
  have htl1 := (nth ws 1).text_len
  simp only [Nat.zero_mul, Nat.add_zero, Nat.one_mul] at m0 m0' m1 m1'
  have F := Lib.hid (show ∀ wx, Below w.heap.size w wx → wx.cell? ⟨b, o + 1, none⟩ = some (.int .i64 (nth ws 0).at_) ∧ wx.cell? ⟨b, o + 2, none⟩ = some (.slice a1 (nth ws 1).l.length c1) ∧ wx.cell? ⟨b, o + 2 + 1, none⟩ = some (.int .i64 (nth ws 1).at_) from fun wx hx => ⟨(hx.cell (p := ⟨b, o + 1, none⟩) hb).trans m0', (hx.cell (p := ⟨b, o + 2, none⟩) hb).trans m1, (hx.cell (p := ⟨b, o + 2 + 1, none⟩) hb).trans m1'⟩)
  clear hst hso hsc hrs hnm hsl hws hg hg1 r0 r1 hv5
  have P := Lib.hid (Blk2.new w (.int .i64 0) (.int .i64 0) tFault)
  have PT := Lib.hid (BlkT.new w #[.int .i64 0, .int .i64 0] tFault)
  have HB := Lib.hid (show Below w.heap.size w (w.alloc (.cells #[.int .i64 0, .int .i64 0] tFault)) from (Below.refl _ _).alloc (Nat.le_refl _) _)
  · have hl3 : ((ws.length : Int) == 3) = false := by rw [hl2']; rfl
    have hl4' : ((ws.length : Int) == 4) = false := by rw [hl2']; rfl
    have HNB := Lib.hid (show nameB ws = .ok [] by unfold nameB; rw [if_neg (by omega)])
    clear hl2'
    cases hs : stageB (nth ws 1).text
    · have Y := Lib.hid (show fromB st ws = .error (5, (nth ws 1).at_) by unfold fromB; rw [HNB.out]; simp [hs])
      obtain ⟨k, hk⟩ : ∃ k, calledB st (nth ws 1).text = k := ⟨_, rfl⟩
      have HS1 := Lib.hid hs
      have HC1 := Lib.hid hk
      clear hs hk
      go_enter Tryd.func13, Tryd.ntmps13
      go_wp2_with (first
        | (go_at_call 11; refine (plainR_any _ _ _ _ (by first | exact HG1.out.1) (by first | (have := HG1.out.2; omega)) (ownsRow_below (by first | exact HR1.out) HB.out)).mono ?_; rintro e2 w2 ⟨rfl, hb2⟩; have P := Lib.hid (P.out.after hb2); have PT := Lib.hid (PT.out.after hb2); have HB := Lib.hid (HB.out.trans (hb2.mono HB.out.size)); have hzz := HB.out.size; obtain ⟨n0, n1, n2⟩ := F.out _ HB.out; clear hb2)
        | (go_at_call 23; refine (stageNameR_any _ _ (by first | (have := HG1.out.2; omega))).mono ?_; rintro e4 w4 ⟨rfl, rfl⟩; first | rw [HS1.out])
        | (go_at_call 24; refine (calledR_any st _ _ c scs _ (by omega) (HR.out.below HB.out) HSL.out HN.out).mono ?_; rintro e5 w5 ⟨rfl, rfl⟩; first | rw [HC1.out])
        | (go_at_call 9; refine (bad_any _ _ _).mono ?_; rintro e8 w8 ⟨rfl, hb2⟩; simp only [faultV]; have P := Lib.hid (P.out.after hb2); have PT := Lib.hid (PT.out.after hb2); have HB := Lib.hid (HB.out.trans (hb2.mono HB.out.size)); have hzz := HB.out.size; obtain ⟨n0, n1, n2⟩ := F.out _ HB.out; clear hb2; obtain ⟨d0, d1, d2, d3⟩ := P.out.facts))
      refine bodyPost_ret (by simp [results, Tryd.results13, go_sem, d0, d1]; try rfl) rfl ?_
      exact ⟨stagesOut_err Y.out rfl, two_new (st := st) (ao := none) (c := c) hB (HB.out.mono hB) (KeepX.below HB.out) (Nat.le_refl _) _ _⟩
    · have HS1 := Lib.hid hs
      rcases calledB_cases st (nth ws 1).text with hk | ⟨k, hkl, hk⟩
      · have HC1 := Lib.hid hk
        by_cases hsc : (nth ws 1).text = wSCRATCH
        · have hsc' : ((nth ws 1).text == [115, 99, 114, 97, 116, 99, 104]) = true := by rw [hsc]; decide
          have HQ := Lib.hid (show ∀ r, (if stageB (nth ws 1).text = false then (.error (5, (nth ws 1).at_) : Except Flt (List StageG)) else if calledB st (nth ws 1).text < 0 ∧ (nth ws 1).text ≠ wSCRATCH then .error (6, (nth ws 1).at_) else r) = r from fun r => by rw [hs, hk]; simp [hsc])
          have HVO := Lib.hid (show varsOf st (calledB st (nth ws 1).text) = [] by rw [hk]; exact varsOf_neg (by omega))
          have HK := Lib.hid hk
          clear hs hk hsc
          have HQ2 := Lib.hid (show ∀ r : Except Flt (List StageG), (if ([] : List UInt8) ≠ [] ∧ (([] : List UInt8) = wSCRATCH ∨ 0 ≤ calledB st []) then .error (6, (nth ws 3).at_) else r) = r from fun r => by rw [if_neg]; simp)
          by_cases h5 : st.length = 5
          · have h5' : ((st.length : Int) == 5) = true := by rw [h5]; rfl
            have Y := Lib.hid (show fromB st ws = .error (10, (nth ws 0).at_) by unfold fromB; rw [HNB.out]; simp only; rw [HQ.out, HQ2.out, if_pos h5])
            clear h5
            go_enter Tryd.func13, Tryd.ntmps13
            go_wp2_with (first
              | (go_at_call 11; refine (plainR_any _ _ _ _ (by first | exact HG1.out.1) (by first | (have := HG1.out.2; omega)) (ownsRow_below (by first | exact HR1.out) HB.out)).mono ?_; rintro e2 w2 ⟨rfl, hb2⟩; have P := Lib.hid (P.out.after hb2); have PT := Lib.hid (PT.out.after hb2); have HB := Lib.hid (HB.out.trans (hb2.mono HB.out.size)); have hzz := HB.out.size; obtain ⟨n0, n1, n2⟩ := F.out _ HB.out; clear hb2)
              | (go_at_call 23; refine (stageNameR_any _ _ (by first | (have := HG1.out.2; omega))).mono ?_; rintro e4 w4 ⟨rfl, rfl⟩; first | rw [HS1.out])
              | (go_at_call 24; refine (calledR_any st _ _ c scs _ (by omega) (HR.out.below HB.out) HSL.out HN.out).mono ?_; rintro e5 w5 ⟨rfl, rfl⟩; first | rw [HC1.out])
              | (go_at_call 9; refine (bad_any _ _ _).mono ?_; rintro e8 w8 ⟨rfl, hb2⟩; simp only [faultV]; have P := Lib.hid (P.out.after hb2); have PT := Lib.hid (PT.out.after hb2); have HB := Lib.hid (HB.out.trans (hb2.mono HB.out.size)); have hzz := HB.out.size; obtain ⟨n0, n1, n2⟩ := F.out _ HB.out; clear hb2; obtain ⟨d0, d1, d2, d3⟩ := P.out.facts))
            refine bodyPost_ret (by simp [results, Tryd.results13, go_sem, d0, d1]; try rfl) rfl ?_
            exact ⟨stagesOut_err Y.out rfl, two_new (st := st) (ao := none) (c := c) hB (HB.out.mono hB) (KeepX.below HB.out) (Nat.le_refl _) _ _⟩
          · have h5' : ((st.length : Int) == 5) = false := by rw [beq_eq_false_iff_ne]; omega
            have Y := Lib.hid (show fromB st ws = .ok (st ++ [⟨[], -1, [], []⟩]) by unfold fromB; rw [HNB.out]; simp only; rw [HQ.out, HQ2.out, if_neg h5, HVO.out, HK.out])
            go_enter Tryd.func13, Tryd.ntmps13
            go_wp2_with (first
              | (go_at_call 11; refine (plainR_any _ _ _ _ (by first | exact HG1.out.1) (by first | (have := HG1.out.2; omega)) (ownsRow_below (by first | exact HR1.out) HB.out)).mono ?_; rintro e2 w2 ⟨rfl, hb2⟩; have P := Lib.hid (P.out.after hb2); have PT := Lib.hid (PT.out.after hb2); have HB := Lib.hid (HB.out.trans (hb2.mono HB.out.size)); have hzz := HB.out.size; obtain ⟨n0, n1, n2⟩ := F.out _ HB.out; clear hb2)
              | (go_at_call 23; refine (stageNameR_any _ _ (by first | (have := HG1.out.2; omega))).mono ?_; rintro e4 w4 ⟨rfl, rfl⟩; first | rw [HS1.out])
              | (go_at_call 24; refine (calledR_any st _ _ c scs _ (by omega) (HR.out.below HB.out) HSL.out HN.out).mono ?_; rintro e5 w5 ⟨rfl, rfl⟩; first | rw [HC1.out])
              | (at_builtin; refine wpList_append_own _ rfl _ _ 26 rfl B tStage i0 (.agg #[.string ByteArray.empty, .int .i64 0, .slice none 0 0, .slice none 0 0]) 4 72 Tryd.underlying26 hi0 hz0 hz1 hz2 rfl (by decide) _ _ _ rfl (ownsRow_below HSO.out ((HB.out.alloc (by omega) _).alloc (by simp; omega) _)) ⟨_, 0, none⟩ 1 1 [.string (S []), .int .i64 (-1), .slice none 0 0, .slice none 0 0] rfl rfl (cells4_at _ _ _ _ _ _ _ (by simp)) (by simp [Value.oneCell']) (by unfold maxLen; omega) (by omega) (by simp; omega) ?_; intro v' w3 hown3 hgr3 _; obtain ⟨ao', c', rfl⟩ := ownsRow_form hown3; have PP := StagesR.push (x := ⟨[], -1, [], []⟩) HSO.out HSC.out ((HB.out.alloc (by omega) _).alloc (by simp; omega) _) hgr3 ⟨⟨[], World.ownsRow_nil _ _ _ _, rfl⟩, World.ownsRow_nil _ _ _ _, by simp [Value.ownBlock], by simp [Value.ownBlock]⟩ hown3 hB; have HP := Lib.hid PP.1; have HX := Lib.hid PP.2; have P := Lib.hid (((P.out.alloc _).alloc _).grown hgr3 (own_new HSO.out)); have PT := Lib.hid (((PT.out.alloc _).alloc _).grown hgr3 (own_new HSO.out)); have HB3 := Lib.hid ((((HB.out.alloc (by omega) _).alloc (by simp; omega) _).mono hB).grown hgr3 (by simp; omega) (own_le HSO.out)); clear hown3 hgr3 PP)
              | (go_at_call 15; refine (fine_any _).mono ?_; rintro e8 w8 ⟨rfl, hb8⟩; simp only [faultV]; obtain ⟨d0, d1, d2, d3⟩ := (P.out.after hb8).facts; have HB8 := Lib.hid hb8; clear hb8))
            refine bodyPost_ret (by simp [results, Tryd.results13, go_sem, d0, d1]; try rfl) rfl ?_
            exact ⟨stagesOut_ok Y.out (by simp) rfl ((HP.out.after HB8.out).two (PT.out.after HB8.out) _ _), two_new (st := st) (ao := none) (c := c) hB (HB3.out.trans (HB8.out.mono (Nat.le_trans hB HB3.out.size))) (HX.out.trans (KeepX.below HB8.out)) (Nat.le_refl _) _ _⟩
        · have hsc' : ((nth ws 1).text == [115, 99, 114, 97, 116, 99, 104]) = false := by simpa using (show ¬ (nth ws 1).text = [115, 99, 114, 97, 116, 99, 104] from hsc)
          have Y := Lib.hid (show fromB st ws = .error (6, (nth ws 1).at_) by unfold fromB; rw [HNB.out]; simp [hs, hk, hsc])
          clear hs hk hsc
          go_enter Tryd.func13, Tryd.ntmps13
          go_wp2_with (first
            | (go_at_call 11; refine (plainR_any _ _ _ _ (by first | exact HG1.out.1) (by first | (have := HG1.out.2; omega)) (ownsRow_below (by first | exact HR1.out) HB.out)).mono ?_; rintro e2 w2 ⟨rfl, hb2⟩; have P := Lib.hid (P.out.after hb2); have PT := Lib.hid (PT.out.after hb2); have HB := Lib.hid (HB.out.trans (hb2.mono HB.out.size)); have hzz := HB.out.size; obtain ⟨n0, n1, n2⟩ := F.out _ HB.out; clear hb2)
            | (go_at_call 23; refine (stageNameR_any _ _ (by first | (have := HG1.out.2; omega))).mono ?_; rintro e4 w4 ⟨rfl, rfl⟩; first | rw [HS1.out])
            | (go_at_call 24; refine (calledR_any st _ _ c scs _ (by omega) (HR.out.below HB.out) HSL.out HN.out).mono ?_; rintro e5 w5 ⟨rfl, rfl⟩; first | rw [HC1.out])
            | (go_at_call 9; refine (bad_any _ _ _).mono ?_; rintro e8 w8 ⟨rfl, hb2⟩; simp only [faultV]; have P := Lib.hid (P.out.after hb2); have PT := Lib.hid (PT.out.after hb2); have HB := Lib.hid (HB.out.trans (hb2.mono HB.out.size)); have hzz := HB.out.size; obtain ⟨n0, n1, n2⟩ := F.out _ HB.out; clear hb2; obtain ⟨d0, d1, d2, d3⟩ := P.out.facts))
          refine bodyPost_ret (by simp [results, Tryd.results13, go_sem, d0, d1]; try rfl) rfl ?_
          exact ⟨stagesOut_err Y.out rfl, two_new (st := st) (ao := none) (c := c) hB (HB.out.mono hB) (KeepX.below HB.out) (Nat.le_refl _) _ _⟩
      · have HC1 := Lib.hid hk
        have HQ := Lib.hid (show ∀ r, (if stageB (nth ws 1).text = false then (.error (5, (nth ws 1).at_) : Except Flt (List StageG)) else if calledB st (nth ws 1).text < 0 ∧ (nth ws 1).text ≠ wSCRATCH then .error (6, (nth ws 1).at_) else r) = r from fun r => by rw [hs, hk, if_neg (by simp), if_neg (by omega)])
        have HVO := Lib.hid (show varsOf st (calledB st (nth ws 1).text) = st[k].vars by rw [hk]; exact varsOf_at hkl)
        have HK := Lib.hid hk
        clear hs hk
        have HQ2 := Lib.hid (show ∀ r : Except Flt (List StageG), (if ([] : List UInt8) ≠ [] ∧ (([] : List UInt8) = wSCRATCH ∨ 0 ≤ calledB st []) then .error (6, (nth ws 3).at_) else r) = r from fun r => by rw [if_neg]; simp)
        by_cases h5 : st.length = 5
        · have h5' : ((st.length : Int) == 5) = true := by rw [h5]; rfl
          have Y := Lib.hid (show fromB st ws = .error (10, (nth ws 0).at_) by unfold fromB; rw [HNB.out]; simp only; rw [HQ.out, HQ2.out, if_pos h5])
          clear h5
          go_enter Tryd.func13, Tryd.ntmps13
          go_wp2_with (first
            | (go_at_call 11; refine (plainR_any _ _ _ _ (by first | exact HG1.out.1) (by first | (have := HG1.out.2; omega)) (ownsRow_below (by first | exact HR1.out) HB.out)).mono ?_; rintro e2 w2 ⟨rfl, hb2⟩; have P := Lib.hid (P.out.after hb2); have PT := Lib.hid (PT.out.after hb2); have HB := Lib.hid (HB.out.trans (hb2.mono HB.out.size)); have hzz := HB.out.size; obtain ⟨n0, n1, n2⟩ := F.out _ HB.out; clear hb2)
            | (go_at_call 23; refine (stageNameR_any _ _ (by first | (have := HG1.out.2; omega))).mono ?_; rintro e4 w4 ⟨rfl, rfl⟩; first | rw [HS1.out])
            | (go_at_call 24; refine (calledR_any st _ _ c scs _ (by omega) (HR.out.below HB.out) HSL.out HN.out).mono ?_; rintro e5 w5 ⟨rfl, rfl⟩; first | rw [HC1.out])
            | (go_at_call 9; refine (bad_any _ _ _).mono ?_; rintro e8 w8 ⟨rfl, hb2⟩; simp only [faultV]; have P := Lib.hid (P.out.after hb2); have PT := Lib.hid (PT.out.after hb2); have HB := Lib.hid (HB.out.trans (hb2.mono HB.out.size)); have hzz := HB.out.size; obtain ⟨n0, n1, n2⟩ := F.out _ HB.out; clear hb2; obtain ⟨d0, d1, d2, d3⟩ := P.out.facts))
          refine bodyPost_ret (by simp [results, Tryd.results13, go_sem, d0, d1]; try rfl) rfl ?_
          exact ⟨stagesOut_err Y.out rfl, two_new (st := st) (ao := none) (c := c) hB (HB.out.mono hB) (KeepX.below HB.out) (Nat.le_refl _) _ _⟩
        · have h5' : ((st.length : Int) == 5) = false := by rw [beq_eq_false_iff_ne]; omega
          have Y := Lib.hid (show fromB st ws = .ok (st ++ [⟨[], (k : Int), [], st[k].vars⟩]) by unfold fromB; rw [HNB.out]; simp only; rw [HQ.out, HQ2.out, if_neg h5, HVO.out, HK.out])
          obtain ⟨sv, vv, -, -, -, g4, hat⟩ := HSC.out.get k hkl
          obtain ⟨b2, o2, rfl, hb2', hc2⟩ := HR.out.at (k * 4 + 3) (by rw [HSL.out]; omega)
          obtain ⟨va, vc, rfl⟩ := ownsRow_form hat.vars
          have HVV := Lib.hid (ownsRow_base hat.vars (Nat.zero_le _))
          have hvl : st[k].vars.length ≤ 100 := HV5.out _ (List.getElem_mem hkl)
          have m4 : w.cell? ⟨b2, o2 + (k * 4 + 3), none⟩ = some (.slice va st[k].vars.length vc) := hc2 _ _ g4
          clear g4 hat hc2
          have F4 := Lib.hid (show ∀ wx, Below w.heap.size w wx → wx.cell? ⟨b2, o2 + k * 4 + 3, none⟩ = some (.slice va st[k].vars.length vc) from fun wx hx => by rw [Nat.add_assoc]; exact (hx.cell (p := ⟨b2, o2 + (k * 4 + 3), none⟩) hb2').trans m4)
          go_enter Tryd.func13, Tryd.ntmps13
          go_wp2_with (first
            | (go_at_call 11; refine (plainR_any _ _ _ _ (by first | exact HG1.out.1) (by first | (have := HG1.out.2; omega)) (ownsRow_below (by first | exact HR1.out) HB.out)).mono ?_; rintro e2 w2 ⟨rfl, hb2⟩; have P := Lib.hid (P.out.after hb2); have PT := Lib.hid (PT.out.after hb2); have HB := Lib.hid (HB.out.trans (hb2.mono HB.out.size)); have hzz := HB.out.size; obtain ⟨n0, n1, n2⟩ := F.out _ HB.out; clear hb2)
            | (go_at_call 23; refine (stageNameR_any _ _ (by first | (have := HG1.out.2; omega))).mono ?_; rintro e4 w4 ⟨rfl, rfl⟩; first | rw [HS1.out])
            | (go_at_call 24; refine (calledR_any st _ _ c scs _ (by omega) (HR.out.below HB.out) HSL.out HN.out).mono ?_; rintro e5 w5 ⟨rfl, rfl⟩; first | rw [HC1.out]; have n9 := F4.out _ HB.out; have lt9 := Nat.lt_of_lt_of_le hb2' HB.out.size))
          go_region_law (refine step_append_row (by rfl) (.tmp 125) (.tmp 130) 56 (by rfl) w.heap.size tText i1 (.string ByteArray.empty) 1 16 Tryd.underlying56 hi1 hz3 hz4 hz5 (by rfl) (by decide) (.slice none 0 0) 0 [] (by rfl) (World.ownsRow_nil _ _ _ _) (.slice va st[k].vars.length vc) st[k].vars.length 0 (strs st[k].vars) (by rfl) (ownsRow_below HVV.out (HB.out.alloc (by omega) _).drew) (strs_one _) (by unfold maxLen; omega) (by omega) (by simp; omega) ?_; intro va' vc' w9 hown9 hgr9; simp only [List.nil_append, Nat.zero_add] at hown9; have hz9 := hgr9.size; have HB9 := Lib.hid ((HB.out.alloc (by omega) _).drew.grown hgr9 (by simp; omega) (fun z hz => by simp [Value.ownBlock] at hz)); have P9 := Lib.hid ((P.out.alloc _).drew.grown hgr9 (by simp [Value.ownBlock])); have PT9 := Lib.hid ((PT.out.alloc _).drew.grown hgr9 (by simp [Value.ownBlock])); obtain ⟨x1, x2, x3, x4, x5, x6, x7, x8⟩ := Blk4.facts ((Blk4.new _ _ _ _ _ _).drew.grown hgr9 (by simp [Value.ownBlock])); have BT9 := Lib.hid ((BlkT.new _ _ tStage).drew.grown hgr9 (by simp [Value.ownBlock])); have O9 := Lib.hid hown9; clear hown9 hgr9)
          all_goals
            have ne9 : w.heap.size ≠ w2.heap.size := by have := P.out.lt; omega
            have HBX := Lib.hid ((HB9.out.setCell (p := ⟨w2.heap.size, 3, none⟩) HB.out.size (.slice va' st[k].vars.length vc')).alloc (by simp only [World.size_setCell]; exact HB9.out.size) (.cells #[.string (S []), .int .i64 (k : Int), .slice none 0 0, .slice va' st[k].vars.length vc'] tStage))
            have OX := Lib.hid ((ownsRow_keep O9.out (KeepT.setT BT9.out (by decide) 3 (.slice va' st[k].vars.length vc'))).alloc (.cells #[.string (S []), .int .i64 (k : Int), .slice none 0 0, .slice va' st[k].vars.length vc'] tStage))
            have PX := Lib.hid ((P9.out.far (o := 3) (.slice va' st[k].vars.length vc') ne9).alloc (.cells #[.string (S []), .int .i64 (k : Int), .slice none 0 0, .slice va' st[k].vars.length vc'] tStage))
            have PTX := Lib.hid ((PT9.out.far (o := 3) (.slice va' st[k].vars.length vc') ne9).alloc (.cells #[.string (S []), .int .i64 (k : Int), .slice none 0 0, .slice va' st[k].vars.length vc'] tStage))
            have szX := HBX.out.size
            go_wp2_with (first
              | (at_builtin; refine wpList_append_own _ rfl _ _ 26 rfl B tStage i0 (.agg #[.string ByteArray.empty, .int .i64 0, .slice none 0 0, .slice none 0 0]) 4 72 Tryd.underlying26 hi0 hz0 hz1 hz2 rfl (by decide) _ _ _ rfl (ownsRow_below HSO.out HBX.out) ⟨_, 0, none⟩ 1 1 [.string (S []), .int .i64 (k : Int), .slice none 0 0, .slice va' st[k].vars.length vc'] rfl rfl (cells4_at _ _ _ _ _ _ _ (by simp)) (by simp [Value.oneCell']) (by unfold maxLen; omega) (by omega) (Nat.le_trans hB szX) ?_; intro v' w3 hown3 hgr3 _; obtain ⟨ao', c', rfl⟩ := ownsRow_form hown3; have PP := StagesR.push (x := ⟨[], (k : Int), [], st[k].vars⟩) HSO.out HSC.out HBX.out hgr3 ⟨⟨[], World.ownsRow_nil _ _ _ _, rfl⟩, OX.out, by simp [Value.ownBlock], own_lt OX.out⟩ hown3 hB; have HP := Lib.hid PP.1; have HX := Lib.hid PP.2; have P := Lib.hid (PX.out.grown hgr3 (own_new HSO.out)); have PT := Lib.hid (PTX.out.grown hgr3 (own_new HSO.out)); have HB3 := Lib.hid ((HBX.out.mono hB).grown hgr3 (Nat.le_trans hB szX) (own_le HSO.out)); clear hown3 hgr3 PP)
              | (go_at_call 15; refine (fine_any _).mono ?_; rintro e8 w8 ⟨rfl, hb8⟩; simp only [faultV]; obtain ⟨d0, d1, d2, d3⟩ := (P.out.after hb8).facts; have HB8 := Lib.hid hb8; clear hb8))
            refine bodyPost_ret (by simp [results, Tryd.results13, go_sem, d0, d1]; try rfl) rfl ?_
            exact ⟨stagesOut_ok Y.out (by simp) rfl ((HP.out.after HB8.out).two (PT.out.after HB8.out) _ _), two_new (st := st) (ao := none) (c := c) hB (HB3.out.trans (HB8.out.mono (Nat.le_trans hB HB3.out.size))) (HX.out.trans (KeepX.below HB8.out)) (Nat.le_refl _) _ _⟩
end Go.Proofs.YtflggoddfjmljaaDoor
namespace Go.Proofs.YtflggoddfjmljaaDoor
open Go.RowKit

/-- a cell of an owned row is written -/
theorem ownsRow_set {w : World} {base : Nat} {e : TypeId} {size n c g : Nat} {xs : List Value} (h : w.ownsRow base e size (.slice (some ⟨g, 0, none⟩) n c) n xs) (j : Nat) (u : Value) (hj : j < n * size) :
    (w.setCell ⟨g, j, none⟩ u).ownsRow base e size (.slice (some ⟨g, 0, none⟩) n c) n (xs.set j u) := by
  obtain ⟨h1, h2⟩ := h
  refine ⟨by simpa using h1, ?_⟩
  rcases h2 with ⟨e1, _⟩ | ⟨g', cap, cur, e1, hg, hh, hn, hm, r1, r2⟩
  · simp at e1
  · simp only [Value.slice.injEq, Option.some.injEq, Addr.mk.injEq] at e1
    obtain ⟨⟨rfl, -, -⟩, -, rfl⟩ := e1
    refine .inr ⟨g, c, cur.setIfInBounds j u, rfl, hg, heap_setCell_same w g j cur e u hh, hn, hm, by simpa using r1, ?_⟩
    rw [← r2]
    apply List.ext_getElem?
    intro k
    simp only [Array.toList_setIfInBounds, List.getElem?_take, List.getElem?_set]
    by_cases hk : k < n * size
    · simp only [hk, if_true]
      by_cases hjk : j = k
      · subst hjk
        have hle : n * size ≤ cur.size := by rw [r1]; exact Nat.mul_le_mul_right _ hn
        simp [hk, show j < cur.size by omega]
        omega
      · simp [hjk]
    · simp only [hk, if_false]
      by_cases hjk : j = k
      · omega
      · simp [hjk]

/-- the last stage, by its rows -/
structure LastR (B H : Nat) (w : World) (init : List StageG) (y : StageG) (gb c : Nat) (cs0 : List Value) (sv vv : Value) (scs : List Value) : Prop where
  own : w.ownsRow B tStage 4 (.slice (some ⟨gb, 0, none⟩) (init.length + 1) c) (init.length + 1) (cs0 ++ [.string (S y.name), .int .i64 y.base, sv, vv])
  ini : StageCells B H w init cs0
  steps : w.ownsRow H tStep 4 sv y.steps.length scs
  cells : StepCells w y.steps scs
  vars : w.ownsRow H tText 1 vv y.vars.length (strs y.vars)
  hH : H ≤ w.heap.size
  hB : B ≤ H
theorem StagesR.last {B : Nat} {w : World} {st : List StageG} {ao : Option Addr} {c : Nat} (h : StagesR B w st ao c) (hne : st ≠ []) :
    ∃ H init y gb cs0 sv vv scs, st = init ++ [y] ∧ ao = some ⟨gb, 0, none⟩ ∧ LastR B H w init y gb c cs0 sv vv scs := by
  obtain ⟨H, init, last, cs0, cs1, rfl, h1, h2, h3, h4, h5, h6, h7⟩ := h.lies
  match last, h1, h2, h7, h5, hne with
  | [], _, h2, _, _, hne => exact absurd (by simp [h2 rfl]) hne
  | [y], _, _, h7, h5, _ =>
    obtain ⟨sv, vv, rest, rfl, ha, hr⟩ := h7
    simp only [StageCells] at hr
    subst hr
    obtain ⟨scs, a1, a2⟩ := ha.steps
    have h5' := h5
    rcases h5.2 with ⟨e, e2⟩ | ⟨gb, cap, cur, e, r⟩
    · simp at e2
    · simp only [Value.slice.injEq] at e
      obtain ⟨rfl, -, -⟩ := e
      rw [List.length_append] at h5'
      exact ⟨H, init, y, gb, cs0, sv, vv, scs, rfl, rfl, h5', h6, a1, a2, ha.vars, h3, h4⟩
theorem LastR.stages {B H : Nat} {w : World} {init : List StageG} {y : StageG} {gb c : Nat} {cs0 : List Value} {sv vv : Value} {scs : List Value} (h : LastR B H w init y gb c cs0 sv vv scs) : StagesR B w (init ++ [y]) (some ⟨gb, 0, none⟩) c := by
  refine ⟨H, init, [y], cs0, _, rfl, by simp, by simp, h.hH, h.hB, ?_, h.ini, ⟨sv, vv, [], rfl, ⟨⟨scs, h.steps, h.cells⟩, h.vars, own_lt h.steps, own_lt h.vars⟩, rfl⟩⟩
  rw [List.length_append]; exact h.own
theorem LastR.facts {B H : Nat} {w : World} {init : List StageG} {y : StageG} {gb c : Nat} {cs0 : List Value} {sv vv : Value} {scs : List Value} (h : LastR B H w init y gb c cs0 sv vv scs) :
    gb < w.heap.size ∧ w.cell? ⟨gb, init.length * 4 + 2, none⟩ = some sv ∧ w.cell? ⟨gb, init.length * 4 + 3, none⟩ = some vv ∧ w.frozen? ⟨gb, init.length * 4 + 2, none⟩ = false ∧ w.frozen? ⟨gb, init.length * 4 + 3, none⟩ = false := by
  have hl := h.ini.len
  have hc := h.own.cells (g := gb) rfl
  have ha : ∀ j, (⟨gb, 0, none⟩ : Addr).add j = ⟨gb, j, none⟩ := fun j => by unfold Addr.add; split <;> simp_all
  have h2 := hc (init.length * 4 + 2) sv (by rw [List.getElem?_append_right (by omega), hl]; simp)
  have h3 := hc (init.length * 4 + 3) vv (by rw [List.getElem?_append_right (by omega), hl]; simp)
  rw [ha] at h2 h3
  rcases h.own.2 with ⟨e, _⟩ | ⟨gb', cap, cur, e, hg, hh, r⟩
  · simp at e
  · simp only [Value.slice.injEq, Option.some.injEq, Addr.mk.injEq] at e
    obtain ⟨⟨rfl, -, -⟩, -, -⟩ := e
    exact ⟨(Array.getElem?_eq_some_iff.1 hh).1, h2, h3, frozen_of_row w gb _ _ _ hh, frozen_of_row w gb _ _ _ hh⟩
theorem LastR.blkT {B H : Nat} {w : World} {init : List StageG} {y : StageG} {gb c : Nat} {cs0 : List Value} {sv vv : Value} {scs : List Value} (h : LastR B H w init y gb c cs0 sv vv scs) : BlkT w gb tStage ∧ B ≤ gb := by
  rcases h.own.2 with ⟨e, _⟩ | ⟨gb', cap, cur, e, hg, hh, r⟩
  · simp at e
  · simp only [Value.slice.injEq, Option.some.injEq, Addr.mk.injEq] at e
    obtain ⟨⟨rfl, -, -⟩, -, -⟩ := e
    exact ⟨⟨_, hh⟩, hg⟩
theorem LastR.after {B H : Nat} {w w' : World} {init : List StageG} {y : StageG} {gb c : Nat} {cs0 : List Value} {sv vv : Value} {scs : List Value} (h : LastR B H w init y gb c cs0 sv vv scs) (hb : Below w.heap.size w w') : LastR B H w' init y gb c cs0 sv vv scs := by
  have hT : ∀ T, KeepT T w w' := fun T => KeepT.below hb
  exact ⟨ownsRow_keep h.own (hT _), h.ini.stays (hT _) (hT _) (fun g cur _ e => hT _ g cur e) (fun g cur _ e => hT _ g cur e), ownsRow_keep h.steps (hT _), h.cells.keep (hT _) (hT _), ownsRow_keep h.vars (hT _), Nat.le_trans h.hH hb.size, h.hB⟩
theorem ownsRow_low {w w' : World} {T : TypeId} {base size n : Nat} {v : Value} {xs : List Value} (h : w.ownsRow base T size v n xs) (hk : ∀ g cur, g < w.heap.size → w.heap[g]? = some (Obj.cells cur T (0, 0)) → w'.heap[g]? = some (Obj.cells cur T (0, 0))) : w'.ownsRow base T size v n xs :=
  ownsRow_keep h (fun g cur e => hk g cur (Array.getElem?_eq_some_iff.1 e).1 e)
theorem set_end3 (cs0 : List Value) (a b sv vv u : Value) (m : Nat) (h : cs0.length = m * 4) : (cs0 ++ [a, b, sv, vv]).set (m * 4 + 3) u = cs0 ++ [a, b, sv, u] := by
  rw [List.set_append_right _ _ (by omega), h]; simp
theorem set_end2 (cs0 : List Value) (a b sv vv u : Value) (m : Nat) (h : cs0.length = m * 4) : (cs0 ++ [a, b, sv, vv]).set (m * 4 + 2) u = cs0 ++ [a, b, u, vv] := by
  rw [List.set_append_right _ _ (by omega), h]; simp
/-- a variable more: the append, then its store -/
theorem LastR.pushVar {B H : Nat} {w w2 : World} {init : List StageG} {y : StageG} {gb c : Nat} {cs0 : List Value} {sv vv vv' : Value} {scs : List Value} {x : List UInt8} (h : LastR B H w init y gb c cs0 sv vv scs)
    (hg : w.grownBy w2 vv.ownBlock) (hown : w2.ownsRow H tText 1 vv' (y.vars.length + 1) (strs y.vars ++ [.string (S x)])) :
    LastR B H (w2.setCell ⟨gb, init.length * 4 + 3, none⟩ vv') init ⟨y.name, y.base, y.steps, y.vars ++ [x]⟩ gb c cs0 sv vv' scs ∧ KeepX w (w2.setCell ⟨gb, init.length * 4 + 3, none⟩ vv') ∧ Below B w (w2.setCell ⟨gb, init.length * 4 + 3, none⟩ vv') := by
  have hT : ∀ T, T ≠ tText → KeepT T w w2 := fun T hne => KeepT.grown hg h.vars (fun e => hne e.symm)
  obtain ⟨⟨cs, hbt⟩, hBg⟩ := h.blkT
  have hb2 : BlkT w2 gb tStage := ⟨cs, hT tStage (by decide) gb cs hbt⟩
  have hS : ∀ T, T ≠ tStage → KeepT T w2 (w2.setCell ⟨gb, init.length * 4 + 3, none⟩ vv') := fun T hne => KeepT.setT hb2 (fun e => hne e.symm) _ _
  have hTT : ∀ T, T ≠ tText → T ≠ tStage → KeepT T w (w2.setCell ⟨gb, init.length * 4 + 3, none⟩ vv') := fun T h1 h2 => (hT T h1).trans (hS T h2)
  have hlow : ∀ g cur, g < H → w.heap[g]? = some (Obj.cells cur tText (0, 0)) → (w2.setCell ⟨gb, init.length * 4 + 3, none⟩ vv').heap[g]? = some (Obj.cells cur tText (0, 0)) := by
    intro g cur hgH e
    refine hS tText (by decide) g cur ((hg.block g (Array.getElem?_eq_some_iff.1 e).1 ?_).trans e)
    intro e2; have := own_le h.vars g e2.symm; omega
  refine ⟨⟨?_, ?_, ownsRow_keep h.steps (hTT _ (by decide) (by decide)), h.cells.keep (hTT _ (by decide) (by decide)) (hTT _ (by decide) (by decide)), ?_, ?_, h.hB⟩, fun T h1 h2 h3 => hTT T h3 h1, ?_⟩
  · have := ownsRow_set (ownsRow_keep h.own (hT _ (by decide))) (init.length * 4 + 3) vv' (by omega)
    rwa [set_end3 _ _ _ _ _ _ _ h.ini.len] at this
  · exact h.ini.stays (hTT _ (by decide) (by decide)) (hTT _ (by decide) (by decide)) (fun g cur _ e => hTT tStep (by decide) (by decide) g cur e) hlow
  · show World.ownsRow _ H tText 1 vv' (y.vars ++ [x]).length (strs (y.vars ++ [x]))
    rw [List.length_append, show strs (y.vars ++ [x]) = strs y.vars ++ [.string (S x)] by simp [strs]]
    exact ownsRow_keep hown (hS _ (by decide))
  · rw [World.size_setCell]; exact Nat.le_trans h.hH hg.size
  · exact Below.setCell ((Below.refl B w).grown hg (Nat.le_trans h.hB h.hH) (fun k hk => Nat.le_trans h.hB (own_le h.vars k hk))) hBg _
/-- a step more: the append, then its store -/
theorem LastR.pushStep {B H : Nat} {w w2 : World} {init : List StageG} {y : StageG} {gb c : Nat} {cs0 : List Value} {sv vv sv' : Value} {scs : List Value} {x : StepG} {A : Option Addr} {d : Nat} (h : LastR B H w init y gb c cs0 sv vv scs)
    (hx : WordsR w A x.words) (hg : w.grownBy w2 sv.ownBlock) (hown : w2.ownsRow H tStep 4 sv' (y.steps.length + 1) (scs ++ [.string (S x.op), .slice A x.words.length d, .int .i64 x.stage, .int .i64 x.at_])) :
    ∃ scs', LastR B H (w2.setCell ⟨gb, init.length * 4 + 2, none⟩ sv') init ⟨y.name, y.base, y.steps ++ [x], y.vars⟩ gb c cs0 sv' vv scs' ∧ KeepX w (w2.setCell ⟨gb, init.length * 4 + 2, none⟩ sv') ∧ Below B w (w2.setCell ⟨gb, init.length * 4 + 2, none⟩ sv') := by
  have hT : ∀ T, T ≠ tStep → KeepT T w w2 := fun T hne => KeepT.grown hg h.steps (fun e => hne e.symm)
  obtain ⟨⟨cs, hbt⟩, hBg⟩ := h.blkT
  have hb2 : BlkT w2 gb tStage := ⟨cs, hT tStage (by decide) gb cs hbt⟩
  have hS : ∀ T, T ≠ tStage → KeepT T w2 (w2.setCell ⟨gb, init.length * 4 + 2, none⟩ sv') := fun T hne => KeepT.setT hb2 (fun e => hne e.symm) _ _
  have hTT : ∀ T, T ≠ tStep → T ≠ tStage → KeepT T w (w2.setCell ⟨gb, init.length * 4 + 2, none⟩ sv') := fun T h1 h2 => (hT T h1).trans (hS T h2)
  have hlow : ∀ g cur, g < H → w.heap[g]? = some (Obj.cells cur tStep (0, 0)) → (w2.setCell ⟨gb, init.length * 4 + 2, none⟩ sv').heap[g]? = some (Obj.cells cur tStep (0, 0)) := by
    intro g cur hgH e
    refine hS tStep (by decide) g cur ((hg.block g (Array.getElem?_eq_some_iff.1 e).1 ?_).trans e)
    intro e2; have := own_le h.steps g e2.symm; omega
  refine ⟨_, ⟨?_, ?_, ?_, (h.cells.app (c := d) hx).keep (hTT _ (by decide) (by decide)) (hTT _ (by decide) (by decide)), ownsRow_keep h.vars (hTT _ (by decide) (by decide)), ?_, h.hB⟩, fun T h1 h2 h3 => hTT T h2 h1, ?_⟩
  · have := ownsRow_set (ownsRow_keep h.own (hT _ (by decide))) (init.length * 4 + 2) sv' (by omega)
    rwa [set_end2 _ _ _ _ _ _ _ h.ini.len] at this
  · exact h.ini.stays (hTT _ (by decide) (by decide)) (hTT _ (by decide) (by decide)) hlow (fun g cur _ e => hTT tText (by decide) (by decide) g cur e)
  · show World.ownsRow _ H tStep 4 sv' (y.steps ++ [x]).length _
    rw [List.length_append]
    exact ownsRow_keep hown (hS _ (by decide))
  · rw [World.size_setCell]; exact Nat.le_trans h.hH hg.size
  · exact Below.setCell ((Below.refl B w).grown hg (Nat.le_trans h.hB h.hH) (fun k hk => Nat.le_trans h.hB (own_le h.steps k hk))) hBg _
theorem pushB_last (init : List StageG) (y : StageG) (vs : List (List UInt8)) (x : StepG) : pushB (init ++ [y]) vs x = init ++ [⟨y.name, y.base, y.steps ++ [x], y.vars ++ vs⟩] := by
  simp [pushB]
theorem lastVars_last (init : List StageG) (y : StageG) : lastVars (init ++ [y]) = y.vars := by simp [lastVars]
end Go.Proofs.YtflggoddfjmljaaDoor
namespace Go.Proofs.YtflggoddfjmljaaDoor
open Go.RowKit

/-- stages within bounds -/
def StB (n : Nat) (st : List StageG) : Prop := ∀ x ∈ st, x.vars.length ≤ n ∧ x.steps.length ≤ n
theorem StB.mono {n m : Nat} {st : List StageG} (h : StB n st) (hm : n ≤ m) : StB m st := fun x hx => ⟨Nat.le_trans (h x hx).1 hm, Nat.le_trans (h x hx).2 hm⟩
theorem boundsB_le {op : List UInt8} {a b : Nat} (h : boundsB op = some (a, b)) : 1 ≤ a ∧ b ≤ 3 ∧ (op = wCOPY → a = 2) := by
  unfold boundsB at h
  split at h
  · rename_i e; simp at h; obtain ⟨rfl, rfl⟩ := h; exact ⟨by omega, by omega, fun e2 => by rw [e] at e2; cases e2⟩
  · split at h
    · simp at h; obtain ⟨rfl, rfl⟩ := h; exact ⟨by omega, by omega, fun _ => rfl⟩
    · rename_i hne
      split at h
      · simp at h; obtain ⟨rfl, rfl⟩ := h; exact ⟨by omega, by omega, fun e => absurd e hne⟩
      · split at h
        · simp at h; obtain ⟨rfl, rfl⟩ := h; exact ⟨by omega, by omega, fun e => absurd e hne⟩
        · split at h
          · simp at h; obtain ⟨rfl, rfl⟩ := h; exact ⟨by omega, by omega, fun e => absurd e hne⟩
          · split at h
            · simp at h; obtain ⟨rfl, rfl⟩ := h; exact ⟨by omega, by omega, fun e => absurd e hne⟩
            · split at h
              · simp at h; obtain ⟨rfl, rfl⟩ := h; exact ⟨by omega, by omega, fun e => absurd e hne⟩
              · split at h
                · simp at h; obtain ⟨rfl, rfl⟩ := h; exact ⟨by omega, by omega, fun e => absurd e hne⟩
                · cases h
theorem fromB_ok {st st' : List StageG} {ws : List WordG} {n : Nat} (h : fromB st ws = .ok st') (hb : StB n st) (h5 : st.length ≤ 5) : StB n st' ∧ st' ≠ [] ∧ st'.length ≤ 5 := by
  unfold fromB at h
  split at h
  · cases h
  · split at h
    · cases h
    · split at h
      · cases h
      · split at h
        · cases h
        · split at h
          · cases h
          · rename_i hne5
            cases h
            refine ⟨?_, by simp, by simp; omega⟩
            intro x hx
            rcases List.mem_append.1 hx with hx | hx
            · exact hb x hx
            · simp only [List.mem_singleton] at hx
              subst hx
              refine ⟨?_, by simp⟩
              rcases calledB_cases st (nth ws 1).text with hk | ⟨k, hkl, hk⟩
              · simp only [hk]; rw [varsOf_neg (by omega)]; simp
              · simp only [hk]; rw [varsOf_at hkl]; exact (hb _ (List.getElem_mem hkl)).1
theorem stepB_ok {st st' : List StageG} {op : List UInt8} {ws : List WordG} {n : Nat} (h : stepB st op ws = .ok st') (hb : StB n st) (h5 : st.length ≤ 5) (hne : st ≠ []) : StB (n + 1) st' ∧ st' ≠ [] ∧ st'.length ≤ 5 := by
  unfold stepB at h
  split at h
  · cases h
  · split at h
    · cases h
    · cases h
      obtain ⟨init, y, rfl⟩ : ∃ init y, st = init ++ [y] := ⟨st.dropLast, st.getLast hne, (List.dropLast_concat_getLast hne).symm⟩
      rw [pushB_last]
      refine ⟨?_, by simp, by simpa using h5⟩
      intro x hx
      rcases List.mem_append.1 hx with hx | hx
      · have := hb x (List.mem_append.2 (.inl hx)); omega
      · simp only [List.mem_singleton] at hx
        subst hx
        have := hb y (by simp)
        refine ⟨?_, by simp; omega⟩
        split <;> simp <;> omega
theorem byteB_iff (c : UInt8) : byteB c = true ↔ (c.toNat : Int) = 10 ∨ (32 ≤ (c.toNat : Int) ∧ (c.toNat : Int) ≤ 126) := by
  simp only [byteB, Bool.or_eq_true, Bool.and_eq_true, decide_eq_true_eq, beq_iff_eq, UInt8.le_iff_toNat_le, ← UInt8.toNat_inj]; simp; omega
theorem nameB_err {ws : List WordG} {f : Flt} (h : nameB ws = .error f) : f.1 = 5 := by
  unfold nameB at h
  split at h
  · split at h
    · cases h; rfl
    · split at h
      · cases h; rfl
      · split at h
        · cases h; rfl
        · cases h
  · cases h
theorem fromB_err {st : List StageG} {ws : List WordG} {f p : Nat} (h : fromB st ws = .error (f, p)) : f = 5 ∨ f = 6 ∨ f = 10 := by
  unfold fromB at h
  split at h
  · rename_i f' hf
    cases h
    exact .inl (nameB_err hf)
  · split at h
    · cases h; exact .inl rfl
    · split at h
      · cases h; exact .inr (.inl rfl)
      · split at h
        · cases h; exact .inr (.inl rfl)
        · split at h
          · cases h; exact .inr (.inr rfl)
          · cases h
theorem stepB_err {st : List StageG} {op : List UInt8} {ws : List WordG} {f p : Nat} (h : stepB st op ws = .error (f, p)) : f = 5 ∨ f = 6 ∨ f = 7 := by
  unfold stepB at h
  split at h
  · rename_i f' he
    cases h
    unfold looksB at he
    split at he
    · unfold takenB at he
      repeat' split at he
      all_goals first
        | (cases he; exact .inl rfl)
        | (cases he; exact .inr (.inl rfl))
        | (cases he; done)
    · split at he
      · split at he <;> cases he; exact .inl rfl
      · split at he
        · split at he <;> cases he; exact .inl rfl
        · cases he
  · split at h
    · cases h; exact .inr (.inr rfl)
    · cases h
theorem parseB_bad {s : List UInt8} {k : Nat} (h : s.length ≤ 1500) (hk : s.findIdx? (fun c => !byteB c) = some k) : parseB s = .error (5, k) := by unfold parseB; rw [if_neg (by omega), hk]
theorem parseB_good {s : List UInt8} (h : s.length ≤ 1500) (hk : s.findIdx? (fun c => !byteB c) = none) : parseB s = fileB s 0 [] 0 := by unfold parseB; rw [if_neg (by omega), hk]
theorem nth_cons (x : WordG) (r : List WordG) : nth (x :: r) 0 = x := rfl
end Go.Proofs.YtflggoddfjmljaaDoor
namespace Go.Proofs.YtflggoddfjmljaaDoor

/-- does a stage stand on another one, or take from it -/
def wantsB (x : StageG) (k : Int) : Bool := x.steps.any (fun y => y.stage == k) || x.base == k
/-- the stages that are needed: the last one, and what a needed one wants -/
inductive Reach (st : List StageG) : Nat → Prop
  | last : st ≠ [] → Reach st (st.length - 1)
  | step {i k : Nat} (hi : i < st.length) : Reach st i → k < i → wantsB st[i] k = true → Reach st k
theorem Reach.lt {st : List StageG} {i : Nat} (h : Reach st i) : i < st.length := by
  induction h with
  | last hne => cases st with
    | nil => exact absurd rfl hne
    | cons x r => simp
  | step hi _ hk _ _ => omega
open Classical in
/-- their numbers, rising -/
noncomputable def needL (st : List StageG) : List Nat := (List.range st.length).filter (fun i => decide (Reach st i))

/-- marks of stages, under way: the last is marked, and what is marked is needed -/
structure Marks (st : List StageG) (b : List Bool) : Prop where
  len : b.length = st.length
  last : b[st.length - 1]? = some true
  sound : ∀ i : Nat, b[i]? = some true → Reach st i
theorem Marks.set {st : List StageG} {b : List Bool} (h : Marks st b) {i k : Nat} (hi : i < st.length) (hb : b[i]? = some true) (hk : k < i) (hw : wantsB st[i] k = true) : Marks st (b.set k true) := by
  refine ⟨by simpa using h.len, ?_, ?_⟩
  · rw [List.getElem?_set]
    have := h.last
    have hl := h.len
    split
    · rename_i e; subst e
      simp; omega
    · exact this
  · intro j hj
    rw [List.getElem?_set] at hj
    split at hj
    · rename_i e; subst e
      exact .step hi (h.sound i hb) hk hw
    · exact h.sound j hj
/-- how many are not marked -/
def openB (b : List Bool) : Nat := (b.filter (fun x => !x)).length
theorem openB_set {b : List Bool} {k : Nat} (hk : k < b.length) (h : b[k] = false) : openB (b.set k true) + 1 = openB b := by
  induction b generalizing k with
  | nil => simp at hk
  | cons x r ih =>
    cases k with
    | zero => simp at h; subst h; simp [openB]
    | succ k =>
      have := ih (by simpa using hk) (by simpa using h)
      simp only [List.set_cons_succ, openB, List.filter_cons] at this ⊢
      cases x <;> simp at this ⊢ <;> omega
/-- nothing more to mark: the marks are the needed ones -/
def ClosedB (st : List StageG) (b : List Bool) : Prop := ∀ (i k : Nat) (hi : i < st.length), k < i → b[i]? = some true → wantsB st[i] k = true → b[k]? = some true
theorem Marks.all {st : List StageG} {b : List Bool} (h : Marks st b) (hc : ClosedB st b) (i : Nat) : b[i]? = some true ↔ Reach st i := by
  refine ⟨h.sound i, fun hr => ?_⟩
  induction hr with
  | last hne => exact h.last
  | step hi _ hk hw ih => exact hc _ _ hi hk ih hw
/-- the numbers up to k of what is marked -/
def upto (b : List Bool) (k : Nat) : List Nat := (List.range k).filter (fun i => b[i]? == some true)
theorem upto_succ (b : List Bool) (k : Nat) : upto b (k + 1) = if b[k]? = some true then upto b k ++ [k] else upto b k := by
  unfold upto
  rw [List.range_succ, List.filter_append]
  split <;> simp_all
theorem upto_all {st : List StageG} {b : List Bool} (h : Marks st b) (hc : ClosedB st b) : upto b st.length = needL st := by
  unfold upto needL
  apply List.filter_congr
  intro i _
  rw [Bool.eq_iff_iff]
  simpa using h.all hc i
end Go.Proofs.YtflggoddfjmljaaDoor
namespace Go.Proofs.YtflggoddfjmljaaDoor
open Go.RowKit

/-- stages stand only on elder ones, and take only from elder ones -/
def WfS (st : List StageG) : Prop := ∀ (i : Nat) (h : i < st.length), st[i].base < (i : Int) ∧ ∀ x ∈ st[i].steps, x.stage < (i : Int)
/-- what a file that was parsed is -/
structure FileOk (st : List StageG) : Prop where
  wf : WfS st
  ne : st ≠ []
  h5 : st.length ≤ 5
  bd : StB 24 st
end Go.Proofs.YtflggoddfjmljaaDoor
namespace Go.Proofs.YtflggoddfjmljaaDoor
open Go.RowKit

/-- from stage k on, all that a marked one wants is marked -/
def ClosedFrom (st : List StageG) (b : List Bool) (k : Nat) : Prop := ∀ (i k' : Nat) (hi : i < st.length), k ≤ i → k' < i → b[i]? = some true → wantsB st[i] k' = true → b[k']? = some true
theorem ClosedFrom.all {st : List StageG} {b : List Bool} (h : ClosedFrom st b 0) : ClosedB st b := fun i k hi hk hb hw => h i k hi (Nat.zero_le _) hk hb hw
/-- what is marked from stage k on, falling -/
def downs (b : List Bool) (n k : Nat) : List Nat := ((List.range n).filter (fun i => b[i]? == some true && decide (k ≤ i))).reverse
theorem downs_top (b : List Bool) (n : Nat) : downs b n n = [] := by
  unfold downs
  rw [List.reverse_eq_nil_iff, List.filter_eq_nil_iff]
  intro i hi
  have := List.mem_range.1 hi
  simp; omega
theorem downs_zero (b : List Bool) (n : Nat) : downs b n 0 = (upto b n).reverse := by
  unfold downs upto
  congr 1
  apply List.filter_congr
  intro i _
  simp
theorem filter_split (p : Nat → Bool) (n k : Nat) (h : k < n) : (List.range n).filter (fun i => p i && decide (k ≤ i)) = (if p k = true then [k] else []) ++ (List.range n).filter (fun i => p i && decide (k + 1 ≤ i)) := by
  induction n with
  | zero => omega
  | succ n ih =>
    rw [List.range_succ, List.filter_append, List.filter_append]
    rcases Nat.lt_or_ge k n with hk | hk
    · rw [ih hk, List.append_assoc]
      congr 2
      simp [List.filter_cons, show k ≤ n by omega, show k + 1 ≤ n by omega]
    · obtain rfl : k = n := by omega
      have e1 : (List.range k).filter (fun i => p i && decide (k ≤ i)) = [] := by
        rw [List.filter_eq_nil_iff]; intro i hi; have := List.mem_range.1 hi; simp; omega
      have e2 : (List.range k).filter (fun i => p i && decide (k + 1 ≤ i)) = [] := by
        rw [List.filter_eq_nil_iff]; intro i hi; have := List.mem_range.1 hi; simp; omega
      rw [e1, e2]
      simp [List.filter_cons]
theorem downs_step (b : List Bool) (n k : Nat) (h : k < n) : downs b n k = if b[k]? = some true then downs b n (k + 1) ++ [k] else downs b n (k + 1) := by
  unfold downs
  rw [filter_split (fun i => b[i]? == some true) n k h]
  by_cases hb : b[k]? = some true <;> simp [hb]
theorem downs_len (b : List Bool) (n k : Nat) : (downs b n k).length ≤ n := by
  unfold downs
  rw [List.length_reverse]
  have := List.length_filter_le (fun i => b[i]? == some true && decide (k ≤ i)) (List.range n)
  simpa using this
theorem downs_same {b b' : List Bool} {n k : Nat} (h : ∀ i, k ≤ i → b'[i]? = b[i]?) : downs b' n k = downs b n k := by
  unfold downs
  congr 1
  apply List.filter_congr
  intro i _
  by_cases hi : k ≤ i
  · rw [h i hi]
  · simp [hi]

/-- in stage i's round: marks behind the base and j steps -/
structure Mid (st : List StageG) (b0 b : List Bool) (i j : Nat) (hi : i < st.length) : Prop where
  above : ∀ k, i ≤ k → b[k]? = b0[k]?
  more : ∀ k : Nat, b0[k]? = some true → b[k]? = some true
  base : ∀ k : Nat, st[i].base = k → b[k]? = some true
  steps : ∀ (q k : Nat) (hq : q < st[i].steps.length), q < j → st[i].steps[q].stage = k → b[k]? = some true
theorem Mid.set {st : List StageG} {b0 b : List Bool} {i j : Nat} {hi : i < st.length} (h : Mid st b0 b i j hi) (k : Nat) (hk : k < i) (hl : b.length = st.length) (hj : ∀ (hq : j < st[i].steps.length), st[i].steps[j].stage = (k : Int)) : Mid st b0 (b.set k true) i (j + 1) hi := by
  have on : ∀ m : Nat, b[m]? = some true → (b.set k true)[m]? = some true := fun m e => by
    rw [List.getElem?_set]; split
    · simp; omega
    · exact e
  refine ⟨fun m hm => ?_, fun m e => on m (h.more m e), fun m e => on m (h.base m e), fun q m hq hlt e => ?_⟩
  · rw [List.getElem?_set_ne (by omega)]; exact h.above m hm
  · rcases Nat.lt_or_ge q j with h' | h'
    · exact on m (h.steps q m hq h' e)
    · obtain rfl : q = j := by omega
      have := hj hq
      have e2 : k = m := by omega
      subst e2
      exact List.getElem?_set_self (by omega)
theorem Mid.skip {st : List StageG} {b0 b : List Bool} {i j : Nat} {hi : i < st.length} (h : Mid st b0 b i j hi) (hj : ∀ (hq : j < st[i].steps.length), st[i].steps[j].stage < 0) : Mid st b0 b i (j + 1) hi := by
  refine ⟨h.above, h.more, h.base, fun q m hq hlt e => ?_⟩
  rcases Nat.lt_or_ge q j with h' | h'
  · exact h.steps q m hq h' e
  · obtain rfl : q = j := by omega
    have := hj hq
    omega
theorem Mid.start {st : List StageG} {b0 : List Bool} {i : Nat} (hi : i < st.length) (hb : st[i].base < 0) : Mid st b0 b0 i 0 hi :=
  ⟨fun _ _ => rfl, fun _ e => e, fun k e => by omega, fun q k _ h => by omega⟩
theorem Mid.start1 {st : List StageG} {b0 : List Bool} {i : Nat} (hi : i < st.length) (k : Nat) (hk : k < i) (hl : b0.length = st.length) (hb : st[i].base = (k : Int)) : Mid st b0 (b0.set k true) i 0 hi := by
  refine ⟨fun m hm => List.getElem?_set_ne (by omega), fun m e => ?_, fun m e => ?_, fun q k _ h => by omega⟩
  · rw [List.getElem?_set]; split
    · simp; omega
    · exact e
  · have e2 : k = m := by omega
    subst e2
    exact List.getElem?_set_self (by omega)
theorem Mid.closed {st : List StageG} {b0 b : List Bool} {i : Nat} {hi : i < st.length} (h : Mid st b0 b i st[i].steps.length hi) (hc : ClosedFrom st b0 (i + 1)) : ClosedFrom st b i := by
  intro i' k' hi' hle hlt hb hw
  rcases Nat.lt_or_ge i i' with h' | h'
  · rw [h.above i' (by omega)] at hb
    exact h.more k' (hc i' k' hi' h' hlt hb hw)
  · obtain rfl : i' = i := by omega
    unfold wantsB at hw
    rw [Bool.or_eq_true, List.any_eq_true] at hw
    rcases hw with ⟨y, hy, e⟩ | e
    · obtain ⟨q, hq, rfl⟩ := List.getElem_of_mem hy
      exact h.steps q k' hq hq (by simpa using e)
    · exact h.base k' (by simpa using e)
theorem ClosedFrom.pass {st : List StageG} {b : List Bool} {i : Nat} (h : ClosedFrom st b (i + 1)) (hb : b[i]? ≠ some true) : ClosedFrom st b i := by
  intro i' k' hi' hle hlt hb' hw
  rcases Nat.lt_or_ge i i' with h' | h'
  · exact h i' k' hi' h' hlt hb' hw
  · obtain rfl : i' = i := by omega
    exact absurd hb' hb
theorem ClosedFrom.top (st : List StageG) (b : List Bool) : ClosedFrom st b st.length := fun i _ hi hle => by omega
theorem downs_all {st : List StageG} {b : List Bool} (h : Marks st b) (hc : ClosedFrom st b 0) : (downs b st.length 0).reverse = needL st := by
  rw [downs_zero, List.reverse_reverse, upto_all h hc.all]
end Go.Proofs.YtflggoddfjmljaaDoor
namespace Go.Proofs.YtflggoddfjmljaaDoor
open Go.RowKit

/-- what 'word' answers -/
def wordOut (w w' : World) (e : Ending) (i : Nat) : Except Nat (List Atm × Nat) → Prop
  | .error p => ∃ ao n c, ∃ j : Int, e = .returned (.tuple #[.agg #[.slice ao n c, .int .i64 j], .int .i64 0, faultV 5 p])
  | .ok (l, n) => ∃ v, e = .returned (.tuple #[.agg #[v, .int .i64 i], .int .i64 n, faultV 0 (-1)]) ∧ w'.ownsRow w.heap.size 74 3 v l.length (atms l)
theorem wordOut_err {w w' : World} {e : Ending} {i p : Nat} {r : Except Nat (List Atm × Nat)} {ao : Option Addr} {n c : Nat} {j : Int} (h : r = .error p) (he : e = .returned (.tuple #[.agg #[.slice ao n c, .int .i64 j], .int .i64 0, faultV 5 p])) : wordOut w w' e i r := by subst h; exact ⟨ao, n, c, j, he⟩

theorem goesB_stops {s : List UInt8} {k : Nat} (h : stopsB s k = true) : goesB s k = false := by
  cases hg : goesB s k with
  | false => rfl
  | true =>
    obtain ⟨h1, h2, h3⟩ := goesB_lt hg
    simp [stopsB, h2] at h

/-- the three variables of 'word' under way, its atoms, and what was there before -/
structure WInv (B g4 g6 g7 i : Nat) (w0 wr : World) (acc : List Atm) (ao : Option Addr) (c : Nat) : Prop where
  own : wr.ownsRow (B + 3) 74 3 (.slice ao acc.length c) acc.length (atms acc)
  b4 : Blk2 wr g4 (.slice none 0 0) (.int .i64 0)
  b6 : Blk2 wr g6 (.int .i64 0) (.int .i64 0)
  b7 : Blk2 wr g7 (.slice ao acc.length c) (.int .i64 i)
  bel : Below B w0 wr
  e4 : g4 = B
  e6 : g6 = B + 1
  e7 : g7 = B + 2
  sz : B + 3 ≤ wr.heap.size
theorem WInv.after {B g4 g6 g7 i : Nat} {w0 wr w' : World} {acc : List Atm} {ao : Option Addr} {c : Nat} (h : WInv B g4 g6 g7 i w0 wr acc ao c) (hb : Below wr.heap.size wr w') : WInv B g4 g6 g7 i w0 w' acc ao c :=
  ⟨ownsRow_below h.own hb, h.b4.after hb, h.b6.after hb, h.b7.after hb, h.bel.trans (hb.mono (by have := h.sz; omega)), h.e4, h.e6, h.e7, Nat.le_trans h.sz hb.size⟩
theorem WInv.alloc {B g4 g6 g7 i : Nat} {w0 wr : World} {acc : List Atm} {ao : Option Addr} {c : Nat} (h : WInv B g4 g6 g7 i w0 wr acc ao c) (o : Obj) : WInv B g4 g6 g7 i w0 (wr.alloc o) acc ao c :=
  h.after ((Below.refl _ _).alloc (Nat.le_refl _) o)
theorem WInv.drew {B g4 g6 g7 i : Nat} {w0 wr : World} {acc : List Atm} {ao : Option Addr} {c : Nat} (h : WInv B g4 g6 g7 i w0 wr acc ao c) : WInv B g4 g6 g7 i w0 wr.drew acc ao c :=
  h.after (Below.refl _ _).drew
theorem WInv.facts {B g4 g6 g7 i : Nat} {w0 wr : World} {acc : List Atm} {ao : Option Addr} {c : Nat} (h : WInv B g4 g6 g7 i w0 wr acc ao c) : g4 ≠ g6 ∧ g6 ≠ g4 ∧ g4 < wr.heap.size ∧ g6 < wr.heap.size ∧ g7 < wr.heap.size := by
  have h1 := h.e4; have h2 := h.e6; have h3 := h.e7; have h4 := h.sz
  refine ⟨by omega, by omega, by omega, by omega, by omega⟩
/-- an append to the atoms, and its store -/
theorem WInv.push {B g4 g6 g7 i : Nat} {w0 wr w2 : World} {acc l : List Atm} {ao ao' : Option Addr} {c c' : Nat} (h : WInv B g4 g6 g7 i w0 wr acc ao c)
    (hown : w2.ownsRow (B + 3) 74 3 (.slice ao' (acc.length + l.length) c') (acc.length + l.length) (atms acc ++ atms l)) (hg : wr.grownBy w2 (Value.slice ao acc.length c).ownBlock) :
    WInv B g4 g6 g7 i w0 (w2.setCell ⟨g7, 0, none⟩ (.slice ao' (acc.length + l.length) c')) (acc ++ l) ao' c' := by
  have h1 := h.e4; have h2 := h.e6; have h3 := h.e7; have h4 := h.sz
  refine ⟨?_, ?_, ?_, ?_, ?_, h1, h2, h3, ?_⟩
  · rw [atms_app, List.length_append]; exact ownsRow_setCell_below hown (a := ⟨g7, 0, none⟩) (by show g7 < B + 3; omega) _
  · exact (h.b4.grown hg (own_ne h.own (by omega))).far _ (by omega)
  · exact (h.b6.grown hg (own_ne h.own (by omega))).far _ (by omega)
  · rw [List.length_append]; exact (h.b7.grown hg (own_ne h.own (by omega))).set0 _
  · exact Below.setCell (h.bel.grown hg (by omega) (fun k hk => by have := own_le h.own k hk; omega)) (show B ≤ g7 by omega) _
  · rw [World.size_setCell]; exact Nat.le_trans h4 hg.size
theorem WInv.kept {B g4 g6 g7 i : Nat} {w0 wr w2 : World} {acc : List Atm} {ao : Option Addr} {c : Nat} (h : WInv B g4 g6 g7 i w0 wr acc ao c) (hg : wr.grownBy w2 (Value.slice ao acc.length c).ownBlock) : Blk2 w2 g7 (.slice ao acc.length c) (.int .i64 i) :=
  h.b7.grown hg (own_ne h.own (by have := h.e7; omega))
/-- the two results are written -/
theorem WInv.out {B g4 g6 g7 i : Nat} {w0 wr : World} {acc : List Atm} {ao : Option Addr} {c : Nat} (h : WInv B g4 g6 g7 i w0 wr acc ao c) (u1 u2 u3 u4 : Value) :
    ((((wr.setCell ⟨g4, 0, none⟩ u1).setCell ⟨g4, 1, none⟩ u2).setCell ⟨g6, 0, none⟩ u3).setCell ⟨g6, 1, none⟩ u4).ownsRow B 74 3 (.slice ao acc.length c) acc.length (atms acc) ∧
    Below B w0 ((((wr.setCell ⟨g4, 0, none⟩ u1).setCell ⟨g4, 1, none⟩ u2).setCell ⟨g6, 0, none⟩ u3).setCell ⟨g6, 1, none⟩ u4) := by
  have h1 := h.e4; have h2 := h.e6
  refine ⟨ownsRow_two (ownsRow_two h.own (by omega) _ _ (Nat.le_refl _)) (by omega) _ _ (by omega), ?_⟩
  exact Below.setCell (Below.setCell (Below.setCell (Below.setCell h.bel (show B ≤ g4 by omega) _) (show B ≤ g4 by omega) _) (show B ≤ g6 by omega) _) (show B ≤ g6 by omega) _

set_option maxRecDepth 100000 in
set_option maxHeartbeats 4000000 in
theorem wordR_any (s : List UInt8) (i : Nat) (w : World) (hs : s.length ≤ 2000000000) (hi : i < s.length) :
    Calls Tryd.prog 22 #[.string (S s), .int .i64 i] w fun e w' => wordOut w w' e i (wordB s i []) ∧ Below w.heap.size w w' := by
  obtain ⟨i0, hi0, hz0, hz1, hz2⟩ := info_parts (show (Tryd.prog.info? 74).map (fun i => (i.zero, i.size, i.bytes)) = some (some (.agg #[.int .u8 0, .string ByteArray.empty, .int .i64 0]), 3, 32) by kernel_rfl)
  go_enter Tryd.func22, Tryd.ntmps22
  go_wp2
  have P := Lib.hid (show WInv w.heap.size w.heap.size (w.heap.size + 1) (w.heap.size + 1 + 1) i w (((w.alloc (.cells #[.slice none 0 0, .int .i64 0] 47)).alloc (.cells #[.int .i64 0, .int .i64 0] 28)).alloc (.cells #[.slice none 0 0, .int .i64 i] 47)) [] none 0 from by
    refine ⟨World.ownsRow_nil _ _ _ _, ((Blk2.new w _ _ _).alloc _).alloc _, ?_, ?_, (((Below.refl _ _).alloc (Nat.le_refl _) _).alloc (by simp) _).alloc (by simp; omega) _, rfl, rfl, rfl, by simp⟩
    · have := (Blk2.new (w.alloc (.cells #[.slice none 0 0, .int .i64 0] 47)) (.int .i64 0) (.int .i64 0) 28).alloc (.cells #[.slice none 0 0, .int .i64 i] 47)
      simpa only [World.size_alloc] using this
    · have := Blk2.new ((w.alloc (.cells #[.slice none 0 0, .int .i64 0] 47)).alloc (.cells #[.int .i64 0, .int .i64 0] 28)) (.slice none 0 0) (.int .i64 i) 47
      simpa only [World.size_alloc, List.length_nil] using this)
  generalize hW : ((w.alloc (.cells #[.slice none 0 0, .int .i64 0] 47)).alloc (.cells #[.int .i64 0, .int .i64 0] 28)).alloc (.cells #[.slice none 0 0, .int .i64 i] 47) = w1 at *
  clear hW
  obtain ⟨g4, e4⟩ : ∃ g, g = w.heap.size := ⟨_, rfl⟩
  obtain ⟨g6, e6⟩ : ∃ g, g = w.heap.size + 1 := ⟨_, rfl⟩
  obtain ⟨g7, e7⟩ : ∃ g, g = w.heap.size + 1 + 1 := ⟨_, rfl⟩
  rw [← e7, ← e6, ← e4]
  replace P := Lib.hid (show WInv w.heap.size g4 g6 g7 i w w1 [] none 0 by rw [e4, e6, e7]; exact P.out)
  clear e4 e6 e7
  go_loopw [1] (fun x wr => ∃ (acc : List Atm) (k : Nat) (ao : Option Addr) (c : Nat), x = .int .i64 k ∧ i ≤ k ∧ k ≤ s.length ∧ acc.length ≤ k ∧ Hid (wordB s i [] = wordB s k acc) ∧
      Hid (WInv w.heap.size g4 g6 g7 i w wr acc ao c)) (fun x _ => s.length - (intOf x).toNat)
  case atStart => exact ⟨[], i, none, 0, by go_num, by omega, by omega, by simp, rfl, P⟩
  case round =>
    obtain ⟨acc, k, ao, cp, rfl, hik, hk, hal, HQ, PI⟩ := hrel
    clear P
    have hszB := PI.out.sz
    obtain ⟨ne1, ne2, lt4, lt6, lt7⟩ := PI.out.facts
    obtain ⟨c1, c2, c3, c4⟩ := PI.out.b4.facts
    obtain ⟨c5, c6, c7, c8⟩ := PI.out.b6.facts
    obtain ⟨d1, d2, d3, d4⟩ := PI.out.b7.facts
    by_cases hstop : stopsB s k = true ∨ goesB s k = true ∨ s[k]? = some 32
    · have Y := Lib.hid (show wordB s i [] = .ok (acc, k) by
        rw [HQ.out]
        rcases Nat.lt_or_ge k s.length with h | h
        · refine wordB_stop h ?_
          rw [stopsB_lt h, List.getElem?_eq_getElem h] at hstop
          simpa using hstop
        · exact wordB_end h)
      have hways : (stopsB s k = true ∧ goesB s k = false) ∨ (stopsB s k = false ∧ goesB s k = true) ∨ (stopsB s k = false ∧ goesB s k = false ∧ ∃ h : k < s.length, ((s[k].toNat : Int) == 32) = true) := by
        cases h1 : stopsB s k with
        | true => exact .inl ⟨rfl, goesB_stops h1⟩
        | false =>
          cases h2 : goesB s k with
          | true => exact .inr (.inl ⟨rfl, rfl⟩)
          | false =>
            rw [h1, h2] at hstop
            have h3 : s[k]? = some 32 := by simpa using hstop
            obtain ⟨h4, h5⟩ := List.getElem?_eq_some_iff.1 h3
            exact .inr (.inr ⟨rfl, rfl, h4, by rw [h5]; rfl⟩)
      clear hstop HQ
      rcases hways with ⟨HS, HG⟩ | ⟨HS, HG⟩ | ⟨HS, HG, hlt, h32⟩
      all_goals
        replace HS := Lib.hid HS
        replace HG := Lib.hid HG
        go_wp2_with (first
          | (go_at_call 21; refine (stops_any s k _ (by unfold maxLen; omega)).mono ?_; rintro e9 w9 ⟨rfl, rfl⟩; rw [HS.out])
          | (go_at_call 20; refine (goes_any s k _ (by unfold maxLen; omega) (by omega)).mono ?_; rintro e9 w9 ⟨rfl, rfl⟩; rw [HG.out]))
        go_region_with (go_at_call 15; refine (fine_any _).mono ?_; rintro e8 w8 ⟨rfl, hb8⟩; simp only [faultV]; obtain ⟨f1, f2, f3, f4⟩ := (Blk2.after PI.out.drew.b4 hb8).facts; obtain ⟨f5, f6, f7, f8⟩ := (Blk2.after PI.out.drew.b6 hb8).facts; obtain ⟨f9, f10, f11, f12⟩ := (Blk2.after PI.out.drew.b7 hb8).facts; have HB8 := Lib.hid hb8; clear hb8)
        all_goals
          go_wp2
          refine bodyPost_ret (by simp [results, Tryd.results22, go_sem, f1, f2, f3, f4, f5, f6, f7, f8, ne1, ne2, lt4, lt6]; try rfl) rfl ?_
          have W8 := ((PI.out.drew.after HB8.out).out (.slice ao acc.length cp) (.int .i64 i) (.int .i64 0) (.int .i64 (-1)))
          refine ⟨?_, W8.2⟩
          rw [Y.out]
          exact ⟨_, rfl, W8.1⟩
    have hst : stopsB s k = false := by cases h : stopsB s k with | false => rfl | true => exact absurd (.inl h) hstop
    have hg : goesB s k = false := by cases h : goesB s k with | false => rfl | true => exact absurd (.inr (.inl h)) hstop
    obtain ⟨hlt, n10⟩ := stopsB_false hst
    have n32 : s[k] ≠ 32 := fun e => hstop (.inr (.inr (by rw [List.getElem?_eq_getElem hlt, e])))
    have h32 : ((s[k].toNat : Int) == 32) = false := u8_ne n32
    have HS := Lib.hid hst
    have HG := Lib.hid hg
    clear hstop hst hg
    by_cases e34 : s[k] = 34
    · have h34 : ((s[k].toNat : Int) == 34) = true := by rw [e34]; rfl
      cases hq : quotedB s k (k + 1) [] with
      | error p =>
        have Y := Lib.hid (show wordB s i [] = .error p by rw [HQ.out]; exact wordB_q0 hlt e34 HG.out hq)
        have HV := Lib.hid hq
        clear hq e34 n10 n32 HQ
        go_wp2_with (first
          | (go_at_call 21; refine (stops_any s k _ (by unfold maxLen; omega)).mono ?_; rintro e9 w9 ⟨rfl, rfl⟩; rw [HS.out])
          | (go_at_call 20; refine (goes_any s k _ (by unfold maxLen; omega) (by omega)).mono ?_; rintro e9 w9 ⟨rfl, rfl⟩; rw [HG.out])
          | (go_at_call 38; refine (quotedR_any s k _ (by omega) hlt).mono ?_; rintro e7 w7 ⟨he7, hb7⟩; rw [HV.out] at he7; cases he7; simp only [faultV]; have P7 := Lib.hid (PI.out.after hb7); obtain ⟨-, -, lt4, lt6, lt7⟩ := P7.out.facts; obtain ⟨f1, f2, f3, f4⟩ := P7.out.b4.facts; obtain ⟨f5, f6, f7, f8⟩ := P7.out.b6.facts; obtain ⟨d1, d2, d3, d4⟩ := P7.out.b7.facts; clear hb7))
        go_region
        all_goals
          go_wp2
          refine bodyPost_ret (by simp [results, Tryd.results22, go_sem, f1, f2, f3, f4, f5, f6, f7, f8, ne1, ne2, lt4, lt6]; try rfl) rfl ?_
          have W8 := P7.out.out (.slice ao acc.length cp) (.int .i64 i) (.int .i64 5) (.int .i64 p)
          refine ⟨wordOut_err Y.out rfl, ?_⟩
          exact (W8.2.alloc (by simp only [World.size_setCell]; have := P7.out.sz; omega) _).drew
      | ok ln =>
        obtain ⟨l, n⟩ := ln
        have Y := Lib.hid (show wordB s i [] = wordB s n (acc ++ l) by rw [HQ.out]; exact wordB_q hlt e34 HG.out hq)
        obtain ⟨q1, q2, q3⟩ := quotedB_le _ _ _ _ _ _ hq
        simp only [List.length_nil, Nat.add_zero] at q3
        have HV := Lib.hid hq
        clear hq e34 n10 n32 HQ
        go_wp2_with (first
          | (go_at_call 21; refine (stops_any s k _ (by unfold maxLen; omega)).mono ?_; rintro e9 w9 ⟨rfl, rfl⟩; rw [HS.out])
          | (go_at_call 20; refine (goes_any s k _ (by unfold maxLen; omega) (by omega)).mono ?_; rintro e9 w9 ⟨rfl, rfl⟩; rw [HG.out])
          | (go_at_call 38; refine (quotedR_any s k _ (by omega) hlt).mono ?_; rintro e7 w7 ⟨he7, hb7⟩; rw [HV.out] at he7; obtain ⟨lv, rfl, hlv⟩ := he7; simp only [faultV]; obtain ⟨lo, lc, rfl⟩ := ownsRow_form hlv; have HL := Lib.hid hlv; have P7 := Lib.hid (PI.out.after hb7); have sz7 := P7.out.sz; obtain ⟨-, -, lt4, lt6, lt7⟩ := P7.out.facts; obtain ⟨d1, d2, d3, d4⟩ := P7.out.b7.facts; clear hb7 hlv)
          | (at_builtin; refine wpList_append_row rfl _ _ 45 rfl (w.heap.size + 3) 74 i0 (.agg #[.int .u8 0, .string ByteArray.empty, .int .i64 0]) 3 32 Tryd.underlying45 hi0 hz0 hz1 hz2 rfl (by decide) _ _ _ rfl (P7.out.alloc _).own _ _ _ (atms l) rfl (HL.out.alloc _) (atms_one_cell l) (by unfold maxLen; omega) (by omega) (by simp; omega) ?_; intro v' w2 hown2 hgr2; obtain ⟨ao', c', rfl⟩ := ownsRow_form hown2; have PW := Lib.hid ((P7.out.alloc _).push hown2 hgr2); obtain ⟨d1, d2, d3, d4⟩ := ((P7.out.alloc _).kept hgr2).facts; clear hown2 hgr2))
        go_roundw
        case rel => exact ⟨acc ++ l, n, ao', c', by go_num, by omega, by omega, by simp; omega, Y, PW⟩
        case measure => simp [intOf]; omega
    have h34 : ((s[k].toNat : Int) == 34) = false := u8_ne e34
    by_cases e36 : s[k] = 36
    · have h36 : ((s[k].toNat : Int) == 36) = true := by rw [e36]; rfl
      cases hv : varB s k with
      | none =>
        have Y := Lib.hid (show wordB s i [] = .error k by rw [HQ.out]; exact wordB_var0 hlt e36 HG.out hv)
        have HV := Lib.hid hv
        clear hv e34 e36 n10 n32 HQ
        go_wp2_with (first
          | (go_at_call 21; refine (stops_any s k _ (by unfold maxLen; omega)).mono ?_; rintro e9 w9 ⟨rfl, rfl⟩; rw [HS.out])
          | (go_at_call 20; refine (goes_any s k _ (by unfold maxLen; omega) (by omega)).mono ?_; rintro e9 w9 ⟨rfl, rfl⟩; rw [HG.out])
          | (go_at_call 39; refine (variableR_any s k _ (by omega) hlt).mono ?_; rintro e7 w7 ⟨rfl, hb7⟩; rw [HV.out]; simp only [varV, Atm.agg]; have P7 := Lib.hid (PI.out.after hb7); have sz7 := P7.out.sz; obtain ⟨-, -, lt4, lt6, lt7⟩ := P7.out.facts; obtain ⟨d1, d2, d3, d4⟩ := P7.out.b7.facts; clear hb7))
        go_region_with (go_at_call 9; refine (bad_any 5 k _).mono ?_; rintro e8 w8 ⟨rfl, hb8⟩; simp only [faultV]; obtain ⟨f1, f2, f3, f4⟩ := (Blk2.after (P7.out.alloc _).drew.b4 hb8).facts; obtain ⟨f5, f6, f7, f8⟩ := (Blk2.after (P7.out.alloc _).drew.b6 hb8).facts; obtain ⟨f9, f10, f11, f12⟩ := (Blk2.after (P7.out.alloc _).drew.b7 hb8).facts; have HB8 := Lib.hid hb8; clear hb8)
        all_goals
          go_wp2
          refine bodyPost_ret (by simp [results, Tryd.results22, go_sem, f1, f2, f3, f4, f5, f6, f7, f8, ne1, ne2, lt4, lt6]; try rfl) rfl ?_
          have W8 := (((P7.out.alloc _).drew.after HB8.out).out (.slice ao acc.length cp) (.int .i64 i) (.int .i64 5) (.int .i64 k))
          refine ⟨wordOut_err Y.out rfl, W8.2⟩
      | some xn =>
        obtain ⟨x, n⟩ := xn
        have Y := Lib.hid (show wordB s i [] = wordB s (k + n) (acc ++ [.var x k]) by rw [HQ.out]; exact wordB_var hlt e36 HG.out hv)
        obtain ⟨v1, v2, v3, v4⟩ := varB_pos hv
        have HV := Lib.hid hv
        clear hv e34 e36 n10 n32 HQ
        have hn0 : ((n : Int) == 0) = false := by rw [beq_eq_false_iff_ne]; omega
        go_wp2_with (first
          | (go_at_call 21; refine (stops_any s k _ (by unfold maxLen; omega)).mono ?_; rintro e9 w9 ⟨rfl, rfl⟩; rw [HS.out])
          | (go_at_call 20; refine (goes_any s k _ (by unfold maxLen; omega) (by omega)).mono ?_; rintro e9 w9 ⟨rfl, rfl⟩; rw [HG.out])
          | (go_at_call 39; refine (variableR_any s k _ (by omega) hlt).mono ?_; rintro e7 w7 ⟨rfl, hb7⟩; rw [HV.out]; simp only [varV, Atm.agg]; have P7 := Lib.hid (PI.out.after hb7); have sz7 := P7.out.sz; obtain ⟨-, -, lt4, lt6, lt7⟩ := P7.out.facts; obtain ⟨d1, d2, d3, d4⟩ := P7.out.b7.facts; clear hb7)
          | (at_builtin; refine wpList_append_own _ rfl _ _ 45 rfl (w.heap.size + 3) 74 i0 (.agg #[.int .u8 0, .string ByteArray.empty, .int .i64 0]) 3 32 Tryd.underlying45 hi0 hz0 hz1 hz2 rfl (by decide) _ _ _ rfl ((P7.out.alloc _).alloc _).own ⟨_, 0, none⟩ 1 1 [.int .u8 0, .string (S x), .int .i64 k] rfl rfl (cells3_at _ _ _ _ _ _ (by simp)) (by simp [Value.oneCell']) (by unfold maxLen; omega) (by omega) (by simp; omega) ?_; intro v' w2 hown2 hgr2 _; obtain ⟨ao', c', rfl⟩ := ownsRow_form hown2; have PW := Lib.hid (((P7.out.alloc _).alloc _).push (l := [.var x k]) hown2 hgr2); obtain ⟨d1, d2, d3, d4⟩ := (((P7.out.alloc _).alloc _).kept hgr2).facts; clear hown2 hgr2))
        go_roundw
        case rel => exact ⟨acc ++ [.var x k], k + n, ao', c', by go_num, by omega, by omega, by simp; omega, Y, PW⟩
        case measure => simp [intOf]; omega
    have h36 : ((s[k].toNat : Int) == 36) = false := u8_ne e36
    by_cases e92 : s[k] = 92
    · have h92 : ((s[k].toNat : Int) == 92) = true := by rw [e92]; rfl
      rcases Nat.lt_or_ge (k + 1) s.length with hl1 | hl1
      · have Y := Lib.hid (show wordB s i [] = wordB s (k + 2) (acc ++ [.ch s[k + 1]]) by rw [HQ.out]; exact wordB_esc hl1 e92 HG.out)
        clear e34 e36 n10 n32 HQ e92
        have hw1 : IntKind.i64.wrap ((k : Int) + 1) = (k : Int) + 1 := by rw [IntKind.wrap_i64]; omega
        have hw2 : (0 : Int) ≤ (k : Int) + 1 := by omega
        have hw3 : (k : Int) + 1 < (s.length : Int) := by omega
        have hw4 : ((k : Int) + 1).toNat = k + 1 := by omega
        go_wp2_with (first
          | (go_at_call 21; refine (stops_any s k _ (by unfold maxLen; omega)).mono ?_; rintro e9 w9 ⟨rfl, rfl⟩; rw [HS.out])
          | (go_at_call 20; refine (goes_any s k _ (by unfold maxLen; omega) (by omega)).mono ?_; rintro e9 w9 ⟨rfl, rfl⟩; rw [HG.out]))
        go_region_law (refine step_append_lies _ (by rfl) (.tmp 103) (.tmp 109) 45 (by rfl) (w.heap.size + 3) 74 i0 (.agg #[.int .u8 0, .string ByteArray.empty, .int .i64 0]) 3 32 Tryd.underlying45 hi0 hz0 hz1 hz2 (by rfl) (by decide) (.slice ao acc.length cp) acc.length (atms acc) (by rfl) (PI.out.drew.alloc _).own ⟨wr.heap.size, 0, none⟩ 1 1 [.int .u8 s[k + 1].toNat, .string (S []), .int .i64 0] (by rfl) (by rfl) (cells3_at _ _ _ _ _ _ (by simp)) (by simp [Value.oneCell']) (by decide) (by unfold maxLen; omega) (by omega) (by simp; omega) _ (by rfl) ?_; intro g' c' w2 hown2 hgr2 _ _; have PW := Lib.hid ((PI.out.drew.alloc _).push (l := [.ch s[k + 1]]) hown2 hgr2); obtain ⟨d1, d2, d3, d4⟩ := ((PI.out.drew.alloc _).kept hgr2).facts; clear hown2 hgr2)
        all_goals
          go_wp2
          go_roundw
          (case rel => exact ⟨acc ++ [.ch s[k + 1]], k + 2, _, c', by go_num, by omega, by omega, by simp; omega, Y, PW⟩)
          (case measure => simp [intOf]; omega)
      · have Y := Lib.hid (show wordB s i [] = .error k by rw [HQ.out]; exact wordB_esc0 hlt e92 HG.out hl1)
        clear e34 e36 n10 n32 HQ e92
        go_wp2_with (first
          | (go_at_call 21; refine (stops_any s k _ (by unfold maxLen; omega)).mono ?_; rintro e9 w9 ⟨rfl, rfl⟩; rw [HS.out])
          | (go_at_call 20; refine (goes_any s k _ (by unfold maxLen; omega) (by omega)).mono ?_; rintro e9 w9 ⟨rfl, rfl⟩; rw [HG.out]))
        go_region_with (go_at_call 9; refine (bad_any 5 k _).mono ?_; rintro e8 w8 ⟨rfl, hb8⟩; simp only [faultV]; obtain ⟨f1, f2, f3, f4⟩ := (Blk2.after PI.out.drew.b4 hb8).facts; obtain ⟨f5, f6, f7, f8⟩ := (Blk2.after PI.out.drew.b6 hb8).facts; obtain ⟨f9, f10, f11, f12⟩ := (Blk2.after PI.out.drew.b7 hb8).facts; have HB8 := Lib.hid hb8; clear hb8)
        all_goals
          go_wp2
          refine bodyPost_ret (by simp [results, Tryd.results22, go_sem, f1, f2, f3, f4, f5, f6, f7, f8, ne1, ne2, lt4, lt6]; try rfl) rfl ?_
          have W8 := ((PI.out.drew.after HB8.out).out (.slice ao acc.length cp) (.int .i64 i) (.int .i64 5) (.int .i64 k))
          refine ⟨wordOut_err Y.out rfl, W8.2⟩
    have h92 : ((s[k].toNat : Int) == 92) = false := u8_ne e92
    · have Y := Lib.hid (show wordB s i [] = wordB s (k + 1) (acc ++ [.ch s[k]]) by rw [HQ.out]; exact wordB_ch hlt n10 n32 HG.out e34 e36 e92)
      clear e34 e36 n10 n32 HQ e92
      go_wp2_with (first
        | (go_at_call 21; refine (stops_any s k _ (by unfold maxLen; omega)).mono ?_; rintro e9 w9 ⟨rfl, rfl⟩; rw [HS.out])
        | (go_at_call 20; refine (goes_any s k _ (by unfold maxLen; omega) (by omega)).mono ?_; rintro e9 w9 ⟨rfl, rfl⟩; rw [HG.out]))
      go_region_law (refine step_append_lies _ (by rfl) (.tmp 40) (.tmp 45) 45 (by rfl) (w.heap.size + 3) 74 i0 (.agg #[.int .u8 0, .string ByteArray.empty, .int .i64 0]) 3 32 Tryd.underlying45 hi0 hz0 hz1 hz2 (by rfl) (by decide) (.slice ao acc.length cp) acc.length (atms acc) (by rfl) (PI.out.drew.alloc _).own ⟨wr.heap.size, 0, none⟩ 1 1 [.int .u8 s[k].toNat, .string (S []), .int .i64 0] (by rfl) (by rfl) (cells3_at _ _ _ _ _ _ (by simp)) (by simp [Value.oneCell']) (by decide) (by unfold maxLen; omega) (by omega) (by simp; omega) _ (by rfl) ?_; intro g' c' w2 hown2 hgr2 _ _; have PW := Lib.hid ((PI.out.drew.alloc _).push (l := [.ch s[k]]) hown2 hgr2); obtain ⟨d1, d2, d3, d4⟩ := ((PI.out.drew.alloc _).kept hgr2).facts; clear hown2 hgr2)
      all_goals
        go_wp2
        go_roundw
        (case rel => exact ⟨acc ++ [.ch s[k]], k + 1, _, c', by go_num, by omega, by omega, by simp; omega, Y, PW⟩)
        (case measure => simp [intOf]; omega)
end Go.Proofs.YtflggoddfjmljaaDoor
namespace Go.Proofs.YtflggoddfjmljaaDoor
open Go.RowKit

/-- what 'line' answers -/
def lineOut (w w' : World) (e : Ending) : Except Nat (List WordG × Nat) → Prop
  | .error p => e = .returned (.tuple #[.slice none 0 0, .int .i64 0, faultV 5 p])
  | .ok (ws, n) => ∃ ao c cs, e = .returned (.tuple #[.slice ao ws.length c, .int .i64 n, faultV 0 (-1)]) ∧ w'.ownsRow w.heap.size 47 2 (.slice ao ws.length c) ws.length cs ∧ WordCells w' ws cs
theorem lineOut_err {w w' : World} {e : Ending} {p : Nat} {r : Except Nat (List WordG × Nat)} (h : r = .error p) (he : e = .returned (.tuple #[.slice none 0 0, .int .i64 0, faultV 5 p])) : lineOut w w' e r := by subst h; exact he

/-- 'line' under way -/
structure LInv (B g6 : Nat) (w0 wr : World) (ws : List WordG) (ao : Option Addr) (c : Nat) (cs : List Value) : Prop where
  own : wr.ownsRow (B + 1) 47 2 (.slice ao ws.length c) ws.length cs
  wc : WordCells wr ws cs
  b6 : Blk2 wr g6 (.int .i64 0) (.int .i64 0)
  t6 : BlkT wr g6 28
  bel : Below B w0 wr
  e6 : g6 = B
  sz : B + 1 ≤ wr.heap.size
theorem LInv.after {B g6 : Nat} {w0 wr w' : World} {ws : List WordG} {ao : Option Addr} {c : Nat} {cs : List Value} (h : LInv B g6 w0 wr ws ao c cs) (hb : Below wr.heap.size wr w') : LInv B g6 w0 w' ws ao c cs :=
  ⟨ownsRow_below h.own hb, h.wc.keep (KeepT.below hb), h.b6.after hb, h.t6.after hb, h.bel.trans (hb.mono (by have := h.sz; omega)), h.e6, Nat.le_trans h.sz hb.size⟩
theorem LInv.alloc {B g6 : Nat} {w0 wr : World} {ws : List WordG} {ao : Option Addr} {c : Nat} {cs : List Value} (h : LInv B g6 w0 wr ws ao c cs) (o : Obj) : LInv B g6 w0 (wr.alloc o) ws ao c cs :=
  h.after ((Below.refl _ _).alloc (Nat.le_refl _) o)
theorem LInv.drew {B g6 : Nat} {w0 wr : World} {ws : List WordG} {ao : Option Addr} {c : Nat} {cs : List Value} (h : LInv B g6 w0 wr ws ao c cs) : LInv B g6 w0 wr.drew ws ao c cs :=
  h.after (Below.refl _ _).drew
/-- a word more -/
theorem LInv.push {B g6 : Nat} {w0 wr w2 : World} {ws : List WordG} {y : WordG} {ao ao' : Option Addr} {c c' : Nat} {cs : List Value} {b : Value} (h : LInv B g6 w0 wr ws ao c cs)
    (hy : wr.ownsRow 0 74 3 b y.l.length (atms y.l))
    (hown : w2.ownsRow (B + 1) 47 2 (.slice ao' (ws.length + 1) c') (ws.length + 1) (cs ++ [b, .int .i64 y.at_])) (hg : wr.grownBy w2 (Value.slice ao ws.length c).ownBlock) :
    LInv B g6 w0 w2 (ws ++ [y]) ao' c' (cs ++ [b, .int .i64 y.at_]) := by
  have h1 := h.e6; have h4 := h.sz
  have hk : KeepT 74 wr w2 := KeepT.grown hg h.own (by decide)
  refine ⟨?_, ?_, h.b6.grown hg (own_ne h.own (by omega)), h.t6.grown hg (own_ne h.own (by omega)), h.bel.grown hg (by omega) (fun k hk => by have := own_le h.own k hk; omega), h1, Nat.le_trans h4 hg.size⟩
  · rw [List.length_append]; exact hown
  · exact (h.wc.keep hk).app (ownsRow_keep hy hk)
/-- the fault is written -/
theorem LInv.out {B g6 : Nat} {w0 wr : World} {ws : List WordG} {ao : Option Addr} {c : Nat} {cs : List Value} (h : LInv B g6 w0 wr ws ao c cs) (u1 u2 : Value) :
    ((wr.setCell ⟨g6, 0, none⟩ u1).setCell ⟨g6, 1, none⟩ u2).ownsRow B 47 2 (.slice ao ws.length c) ws.length cs ∧
    WordCells ((wr.setCell ⟨g6, 0, none⟩ u1).setCell ⟨g6, 1, none⟩ u2) ws cs ∧ Below B w0 ((wr.setCell ⟨g6, 0, none⟩ u1).setCell ⟨g6, 1, none⟩ u2) := by
  have h1 := h.e6
  refine ⟨ownsRow_two h.own (by omega) _ _ (by omega), ?_, Below.setCell (Below.setCell h.bel (show B ≤ g6 by omega) _) (show B ≤ g6 by omega) _⟩
  exact h.wc.keep (KeepT.two h.t6 (by decide) u1 u2)

set_option maxRecDepth 100000 in
set_option maxHeartbeats 4000000 in
theorem lineR_any (s : List UInt8) (i : Nat) (w : World) (hs : s.length ≤ 1500) (hi : i < s.length) :
    Calls Tryd.prog 10 #[.string (S s), .int .i64 i] w fun e w' => lineOut w w' e (lineB s i []) ∧ Below w.heap.size w w' := by
  obtain ⟨i0, hi0, hz0, hz1, hz2⟩ := info_parts (show (Tryd.prog.info? 47).map (fun i => (i.zero, i.size, i.bytes)) = some (some (.agg #[.slice none 0 0, .int .i64 0]), 2, 32) by kernel_rfl)
  go_enter Tryd.func10, Tryd.ntmps10
  go_wp2
  have P := Lib.hid (show LInv w.heap.size w.heap.size w (w.alloc (.cells #[.int .i64 0, .int .i64 0] 28)) [] none 0 [] from
    ⟨World.ownsRow_nil _ _ _ _, rfl, Blk2.new w _ _ _, BlkT.new w _ _, (Below.refl _ _).alloc (Nat.le_refl _) _, rfl, by simp⟩)
  generalize hW : w.alloc (.cells #[.int .i64 0, .int .i64 0] 28) = w1 at *
  clear hW
  obtain ⟨g6, e6⟩ : ∃ g, g = w.heap.size := ⟨_, rfl⟩
  rw [← e6]
  replace P := Lib.hid (show LInv w.heap.size g6 w w1 [] none 0 [] by rw [e6]; exact P.out)
  clear e6
  go_loopw [1, 7] (fun x v wr => ∃ (ws : List WordG) (k : Nat) (ao : Option Addr) (c : Nat) (cs : List Value), x = .int .i64 k ∧ v = .slice ao ws.length c ∧ i ≤ k ∧ k ≤ s.length ∧ ws.length ≤ k ∧ Hid (lineB s i [] = lineB s k ws) ∧
      Hid (LInv w.heap.size g6 w wr ws ao c cs)) (fun x _ _ => s.length - (intOf x).toNat)
  case atStart => exact ⟨[], i, none, 0, [], by go_num, rfl, by omega, by omega, by simp, rfl, P⟩
  case round =>
    obtain ⟨ws, k, ao, cp, cs, rfl, rfl, hik, hk, hal, HQ, PI⟩ := hrel
    clear P
    have hszB := PI.out.sz
    have lt6 : g6 < wr.heap.size := PI.out.b6.lt
    cases hst : stopsB s k with
    | true =>
      have Y := Lib.hid (show lineB s i [] = .ok (ws, k + 1) by rw [HQ.out]; exact lineB_stop hst)
      have HG := Lib.hid (goesB_stops hst)
      have HS := Lib.hid hst
      clear hst HQ
      go_wp2_with (first
        | (go_at_call 21; refine (stops_any s k _ (by unfold maxLen; omega)).mono ?_; rintro e9 w9 ⟨rfl, rfl⟩; rw [HS.out])
        | (go_at_call 20; refine (goes_any s k _ (by unfold maxLen; omega) (by omega)).mono ?_; rintro e9 w9 ⟨rfl, rfl⟩; rw [HG.out])
        | (go_at_call 15; refine (fine_any _).mono ?_; rintro e8 w8 ⟨rfl, hb8⟩; simp only [faultV]; obtain ⟨f1, f2, f3, f4⟩ := (PI.out.after hb8).b6.facts; have HB8 := Lib.hid hb8; clear hb8))
      refine bodyPost_ret (by simp [results, Tryd.results10, go_sem, f1, f2, f3, f4, lt6]; try rfl) rfl ?_
      have W8 := (PI.out.after HB8.out).out (.int .i64 0) (.int .i64 (-1))
      refine ⟨?_, W8.2.2⟩
      rw [Y.out]
      exact ⟨_, _, _, rfl, W8.1, W8.2.1⟩
    | false =>
    obtain ⟨hlt, n10⟩ := stopsB_false hst
    have HS := Lib.hid hst
    cases hg : goesB s k with
    | true =>
      obtain ⟨hg1, -, -⟩ := goesB_lt hg
      have Y := Lib.hid (show lineB s i [] = lineB s (k + 2) ws by rw [HQ.out]; exact lineB_goes hst hg)
      have HG := Lib.hid hg
      clear hst hg HQ
      go_wp2_with (first
        | (go_at_call 21; refine (stops_any s k _ (by unfold maxLen; omega)).mono ?_; rintro e9 w9 ⟨rfl, rfl⟩; rw [HS.out])
        | (go_at_call 20; refine (goes_any s k _ (by unfold maxLen; omega) (by omega)).mono ?_; rintro e9 w9 ⟨rfl, rfl⟩; rw [HG.out]))
      go_roundw
      case rel => exact ⟨ws, k + 2, ao, cp, cs, by go_num, rfl, by omega, by omega, by omega, Y, PI⟩
      case measure => simp [intOf]; omega
    | false =>
    have HG := Lib.hid hg
    by_cases c32 : s[k]? = some 32
    · have Y := Lib.hid (show lineB s i [] = lineB s (k + 1) ws by rw [HQ.out]; exact lineB_blank hst hg c32)
      have h32 : ((s[k].toNat : Int) == 32) = true := by
        rw [List.getElem?_eq_getElem hlt] at c32
        rw [Option.some.inj c32]; rfl
      clear hst hg HQ c32 n10
      go_wp2_with (first
        | (go_at_call 21; refine (stops_any s k _ (by unfold maxLen; omega)).mono ?_; rintro e9 w9 ⟨rfl, rfl⟩; rw [HS.out])
        | (go_at_call 20; refine (goes_any s k _ (by unfold maxLen; omega) (by omega)).mono ?_; rintro e9 w9 ⟨rfl, rfl⟩; rw [HG.out]))
      go_roundw
      case rel => exact ⟨ws, k + 1, ao, cp, cs, by go_num, rfl, by omega, by omega, by omega, Y, PI⟩
      case measure => simp [intOf]; omega
    have n32 : s[k] ≠ 32 := fun e => c32 (by rw [List.getElem?_eq_getElem hlt, e])
    have h32 : ((s[k].toNat : Int) == 32) = false := u8_ne n32
    by_cases c35 : s[k]? = some 35 ∧ ws = []
    · obtain ⟨c35, rfl⟩ := c35
      obtain ⟨m1, m2, m3⟩ := commentB_le s k hk
      have m4 : commentB s k ≠ k := by intro e; rw [e, hst] at m3; cases m3
      have Y := Lib.hid (show lineB s i [] = lineB s (commentB s k) [] by rw [HQ.out, lineB_comment hst hg c35, lineB_stop m3])
      have h35 : ((s[k].toNat : Int) == 35) = true := by
        rw [List.getElem?_eq_getElem hlt] at c35
        rw [Option.some.inj c35]; rfl
      have M3 := Lib.hid m3
      clear hst hg HQ c32 c35 n10 n32 m3
      go_wp2_with (first
        | (go_at_call 21; refine (stops_any s k _ (by unfold maxLen; omega)).mono ?_; rintro e9 w9 ⟨rfl, rfl⟩; rw [HS.out])
        | (go_at_call 20; refine (goes_any s k _ (by unfold maxLen; omega) (by omega)).mono ?_; rintro e9 w9 ⟨rfl, rfl⟩; rw [HG.out]))
      go_loopw [1, 9] (fun x b wx => ∃ (j : Nat), x = .int .i64 j ∧ b = .bool (stopsB s j) ∧ k ≤ j ∧ j ≤ s.length ∧ Hid (commentB s j = commentB s k) ∧ wx = wr) (fun x _ _ => s.length - (intOf x).toNat)
      (case atStart => exact ⟨k, by go_num, by rw [HS.out], by omega, by omega, rfl, rfl⟩)
      (case round =>
        obtain ⟨j, rfl, rfl, hkj, hj, HJ, rfl⟩ := hrel
        cases hsj : stopsB s j with
        | true =>
          have E := Lib.hid (show commentB s k = j by rw [← HJ.out]; exact commentB_stop hsj)
          go_wp2
          go_roundw
          case rel => exact ⟨[], j, ao, cp, cs, by go_num, rfl, by omega, by omega, by simp, by rw [← E.out]; exact Y, PI⟩
          case measure => have := E.out; simp [intOf]; omega
        | false =>
          obtain ⟨hjl, -⟩ := stopsB_false hsj
          have E := Lib.hid (show commentB s (j + 1) = commentB s k by rw [← HJ.out]; exact (commentB_on hsj).symm)
          go_wp2_with (go_at_call 21; refine (stops_any s (j + 1) _ (by unfold maxLen; omega)).mono ?_; rintro e9 w9 ⟨rfl, rfl⟩)
          go_roundw
          case rel => exact ⟨j + 1, by go_num, rfl, by omega, by omega, E, trivial⟩
          case measure => simp [intOf]; omega)
    have hways : (((s[k].toNat : Int) == 35) = false) ∨ (((s[k].toNat : Int) == 35) = true ∧ ((ws.length : Int) == 0) = false) := by
      by_cases e : s[k] = 35
      · refine .inr ⟨by rw [e]; rfl, ?_⟩
        rw [beq_eq_false_iff_ne]
        intro e0
        have e1 : ws.length = 0 := by omega
        exact c35 ⟨by rw [List.getElem?_eq_getElem hlt, e], List.eq_nil_of_length_eq_zero e1⟩
      · exact .inl (u8_ne e)
    cases hw : wordB s k [] with
    | error p =>
      have Y := Lib.hid (show lineB s i [] = .error p by rw [HQ.out]; exact lineB_word0 hst hg c32 c35 hw)
      have HV := Lib.hid hw
      clear hst hg HQ c32 c35 n10 n32 hw
      rcases hways with h35 | ⟨h35, hl0⟩
      all_goals
        go_wp2_with (first
          | (go_at_call 21; refine (stops_any s k _ (by unfold maxLen; omega)).mono ?_; rintro e9 w9 ⟨rfl, rfl⟩; rw [HS.out])
          | (go_at_call 20; refine (goes_any s k _ (by unfold maxLen; omega) (by omega)).mono ?_; rintro e9 w9 ⟨rfl, rfl⟩; rw [HG.out])
          | (go_at_call 22; refine (wordR_any s k _ (by omega) hlt).mono ?_; rintro e7 w7 ⟨he7, hb7⟩; rw [HV.out] at he7; obtain ⟨wo, wn, wc, wj, rfl⟩ := he7; simp only [faultV]; have P7 := Lib.hid (PI.out.after hb7); have lt6 := P7.out.b6.lt; obtain ⟨f1, f2, f3, f4⟩ := P7.out.b6.facts; clear hb7))
        go_region
        all_goals
          go_wp2
          refine bodyPost_ret (by simp [results, Tryd.results10, go_sem, f1, f2, f3, f4, lt6]; try rfl) rfl ?_
          have W8 := P7.out.out (.int .i64 5) (.int .i64 p)
          refine ⟨lineOut_err Y.out rfl, ?_⟩
          exact ((W8.2.2.alloc (by simp only [World.size_setCell]; have := P7.out.sz; omega) _).alloc (by simp only [World.size_alloc, World.size_setCell]; have := P7.out.sz; omega) _).drew
    | ok ln =>
      obtain ⟨l, n⟩ := ln
      have Y := Lib.hid (show lineB s i [] = lineB s n (ws ++ [⟨l, k⟩]) by rw [HQ.out]; exact lineB_word hst hg c32 c35 hw)
      obtain ⟨q1, q2, q3⟩ := wordB_le _ _ _ _ _ hw hk
      have q4 := wordB_moves _ _ _ _ _ hw hlt n10 n32 hg
      simp only [List.length_nil, Nat.add_zero] at q3
      have HV := Lib.hid hw
      clear hst hg HQ c32 c35 n10 n32 hw
      rcases hways with h35 | ⟨h35, hl0⟩
      all_goals
        go_wp2_with (first
          | (go_at_call 21; refine (stops_any s k _ (by unfold maxLen; omega)).mono ?_; rintro e9 w9 ⟨rfl, rfl⟩; rw [HS.out])
          | (go_at_call 20; refine (goes_any s k _ (by unfold maxLen; omega) (by omega)).mono ?_; rintro e9 w9 ⟨rfl, rfl⟩; rw [HG.out])
          | (go_at_call 22; refine (wordR_any s k _ (by omega) hlt).mono ?_; rintro e7 w7 ⟨he7, hb7⟩; rw [HV.out] at he7; obtain ⟨wv, rfl, hwv⟩ := he7; simp only [faultV]; obtain ⟨lo, lc, rfl⟩ := ownsRow_form hwv; have HL := Lib.hid (ownsRow_base hwv (Nat.zero_le _)); have P7 := Lib.hid (PI.out.after hb7); have sz7 := P7.out.sz; clear hb7 hwv)
          | (at_builtin; refine wpList_append_own _ rfl _ _ 40 rfl (w.heap.size + 1) 47 i0 (.agg #[.slice none 0 0, .int .i64 0]) 2 32 Tryd.underlying40 hi0 hz0 hz1 hz2 rfl (by decide) _ _ _ rfl (((P7.out.alloc _).alloc _).alloc _).own ⟨_, 0, none⟩ 1 1 [.slice lo l.length lc, .int .i64 k] rfl rfl (cells2_at _ _ _ _ _ (by simp)) (by simp [Value.oneCell']) (by unfold maxLen; omega) (by omega) (by simp; omega) ?_; intro v' w2 hown2 hgr2 _; obtain ⟨ao', c', rfl⟩ := ownsRow_form hown2; have PW := Lib.hid ((((P7.out.alloc _).alloc _).alloc _).push (y := ⟨l, k⟩) (((HL.out.alloc _).alloc _).alloc _) hown2 hgr2); clear hown2 hgr2))
        go_roundw
        (case rel => exact ⟨ws ++ [⟨l, k⟩], n, ao', c', _, by go_num, by simp, by omega, by omega, by simp; omega, Y, PW⟩)
        (case measure => simp [intOf]; omega)
end Go.Proofs.YtflggoddfjmljaaDoor
