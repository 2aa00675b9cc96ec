/-
  The document's answer: a FROM: the walk.
  The last stage in memory: a variable more, a step more.
  Plain words: what an instruction leaves of the bounds on stages; bounds of instructions. No program in sight.
  Plain words: which stages are needed. No program in sight.
  Plain words: what a file that was parsed is. No program in sight.
  Plain words: which stages are needed, found from the last one down. No program in sight.
  Plain words: the known text of Plans, by the words. No program in sight.
  Plain words: what the steps of a file that was parsed are: few words, good ones; known instructions. No program in sight.
  Plain words: the one form of a build file. No program in sight.
  The document's answer: the one form: a byte, a word, a stage's title: the walks.
-/
import Derived.Deep.RegionLaw
import Derived.Deep.AppendLies
import Derived.BigRegion
import Derived.Test.YtflggoddfjmljaaGreatDoorY04
set_option linter.unusedVariables false
set_option linter.unusedSimpArgs false
namespace Go.Proofs.YtflggoddfjmljaaGreatDoor
open Go.RowKit

theorem step_append_row {P : Program} {ops : Array Oper} {o : Oper} {a : Act} {w : World} {K : Act → World → Prop} {Q : Exit → Act → World → Prop} {E : Prop} (hgd : o.guard = none) (s x : Operand) (t : TypeId)
    (ho : o.op = .call { callee := .builtin .append, args := #[s, x], argTypes := #[t, t] })
    (base : Nat) (e : TypeId) (i : TypeInfo) (z : Value) (size bytes : Nat) (ht : P.underlying t = some (.slice e)) (hi : P.info? e = some i) (hz : i.zero = some z)
    (hsize : i.size = size) (hby : i.bytes = bytes) (hzs : z.cells.size = size) (hsz : 0 < size)
    (v : Value) (n : Nat) (xs : List Value) (hs : a.eval s = v) (hown : w.ownsRow base e size v n xs)
    (v2 : Value) (m b2 : Nat) (ys : List Value) (hx : a.eval x = v2) (hown2 : w.ownsRow b2 e size v2 m ys) (h1 : ∀ u ∈ ys, u.oneCell' = true)
    (h63 : n + m ≤ maxLen) (hbytes : (n + m) * bytes ≤ 140737488355328) (hbase : base ≤ w.heap.size)
    (h : ∀ ao c w', w'.ownsRow base e size (.slice ao (n + m) c) (n + m) (xs ++ ys) → w.grownBy w' v.ownBlock → K (a.put o.dst (.slice ao (n + m) c)) w') :
    if Region.wanted o (yielded ops a.tmps) = true then Oper.wp P o a w K Q else E := by
  have hw : Region.wanted o (yielded ops a.tmps) = true := by simp [Region.wanted, hgd]
  rw [if_pos hw]
  rcases hown2.2 with ⟨rfl, rfl⟩ | ⟨g, cap, cur, rfl, r⟩
  · have hy : ys = [] := List.eq_nil_of_length_eq_zero (by simpa using hown2.1)
    subst hy
    have hrun := run_append_owned_none (P := P) (w := w) base t o.type e i size ht hi v n xs hown
    obtain ⟨ao, c, rfl⟩ := ownsRow_form hown
    unfold Oper.wp
    simp [execOp, ho, resolve, invoke, builtin, hs, hx, hrun, Result.andThen]
    exact h ao c w (by simpa using hown) ⟨rfl, rfl, rfl, Nat.le_refl _, fun _ _ _ => rfl⟩
  · refine wp_append_own w s x t ho base e i z size bytes ht hi hz hsize hby hzs hsz v n xs hs hown ⟨g, 0, none⟩ m cap ys hx hown2.1 (hown2.cells (g := g) rfl) h1 h63 hbytes hbase (fun v' w' h2 h3 _ => ?_)
    obtain ⟨ao, c, rfl⟩ := ownsRow_form h2
    exact h ao c w' h2 h3
theorem KeepT.setNew {T : TypeId} {w wz : World} (h : KeepT T w wz) {g : Nat} (hg : w.heap.size ≤ g) (o : Nat) (u : Value) : KeepT T w (wz.setCell ⟨g, o, none⟩ u) := by
  intro k cur e
  have hk := (Array.getElem?_eq_some_iff.1 e).1
  rw [heap_setCell_other wz ⟨g, o, none⟩ k u (by show k ≠ g; omega)]
  exact h k cur e
/-- what 'from' and 'step' leave: all blocks of other types than a stage's, a step's, a text's -/
def KeepX (w w' : World) : Prop := ∀ T, T ≠ tStage → T ≠ tStep → T ≠ tText → KeepT T w w'
theorem KeepX.below {w w' : World} (h : Below w.heap.size w w') : KeepX w w' := fun _ _ _ _ => KeepT.below h
theorem StagesR.push {B : Nat} {w wx w2 : World} {st : List StageG} {x : StageG} {ao ao' : Option Addr} {c c' : Nat} {cs : List Value} {sv vv : Value}
    (hown : w.ownsRow B tStage 4 (.slice ao st.length c) st.length cs) (hsc : StageCells B w.heap.size w st cs) (hb : Below w.heap.size w wx) (hg : wx.grownBy w2 (Value.slice ao st.length c).ownBlock)
    (hx : StageAt w.heap.size wx.heap.size wx x sv vv) (hown2 : w2.ownsRow B tStage 4 (.slice ao' (st.length + 1) c') (st.length + 1) (cs ++ [.string (S x.name), .int .i64 x.base, sv, vv])) (hB : B ≤ w.heap.size) :
    StagesR B w2 (st ++ [x]) ao' c' ∧ KeepX w w2 := by
  have hownx := ownsRow_below hown hb
  have hT : ∀ T, T ≠ tStage → KeepT T wx w2 := fun T h => KeepT.grown hg hownx (fun e => h e.symm)
  have hT' : ∀ T, T ≠ tStage → KeepT T w w2 := fun T h => (KeepT.below hb).trans (hT T h)
  refine ⟨⟨w.heap.size, st, [x], cs, [.string (S x.name), .int .i64 x.base, sv, vv], rfl, by simp, by simp, Nat.le_trans hb.size hg.size, hB, ?_, ?_, ?_⟩, fun T h _ _ => hT' T h⟩
  · rw [List.length_append]; exact hown2
  · exact hsc.stays (hT' _ (by decide)) (hT' _ (by decide)) (fun g cur _ e => hT' tStep (by decide) g cur e) (fun g cur _ e => hT' tText (by decide) g cur e)
  · exact ⟨sv, vv, [], rfl, (hx.stays (hT _ (by decide)) (hT _ (by decide)) (fun g cur _ e => hT tStep (by decide) g cur e) (fun g cur _ e => hT tText (by decide) g cur e)).mono (Nat.le_refl _) hg.size, rfl⟩
theorem own_lt {w : World} {base : Nat} {e : TypeId} {size : Nat} {v : Value} {n : Nat} {xs : List Value} (h : w.ownsRow base e size v n xs) : ∀ k, v.ownBlock = some k → k < w.heap.size := by
  rcases h.2 with ⟨rfl, _⟩ | ⟨g', cap, cur, rfl, hb, hh, _⟩
  · simp [Value.ownBlock]
  · intro k hk; simp only [Value.ownBlock, Option.some.injEq] at hk; subst hk; exact (Array.getElem?_eq_some_iff.1 hh).1
theorem own_new {w : World} {base : Nat} {e : TypeId} {size : Nat} {v : Value} {n : Nat} {xs : List Value} (h : w.ownsRow base e size v n xs) : some w.heap.size ≠ v.ownBlock := fun e => by have := own_lt h _ e.symm; omega
theorem BlkT.alloc {w : World} {g : Nat} {t : TypeId} (h : BlkT w g t) (o : Obj) : BlkT (w.alloc o) g t := h.after ((Below.refl _ _).alloc (Nat.le_refl _) o)
theorem BlkT.far {w : World} {g g' o : Nat} {t : TypeId} (h : BlkT w g t) (u : Value) (hne : g ≠ g') : BlkT (w.setCell ⟨g', o, none⟩ u) g t := by
  obtain ⟨cs, h⟩ := h
  exact ⟨cs, by rw [heap_setCell_other w _ g u hne]; exact h⟩
theorem KeepT.setT {T e : TypeId} {w : World} {g : Nat} (hb : BlkT w g e) (hne : e ≠ T) (o : Nat) (u : Value) : KeepT T w (w.setCell ⟨g, o, none⟩ u) := by
  obtain ⟨cs, h⟩ := hb
  exact KeepT.setCell h hne o u
theorem BlkT.drew {w : World} {g : Nat} {t : TypeId} (h : BlkT w g t) : BlkT w.drew g t := h
theorem KeepX.trans {a b c : World} (h : KeepX a b) (k : KeepX b c) : KeepX a c := fun T h1 h2 h3 => (h T h1 h2 h3).trans (k T h1 h2 h3)
/-- a variable of a struct's four cells -/
def Blk4 (w : World) (g : Nat) (a b c d : Value) : Prop := ∃ t, w.heap[g]? = some (Obj.cells #[a, b, c, d] t (0, 0))
theorem Blk4.new (w : World) (a b c d : Value) (t : TypeId) : Blk4 (w.alloc (.cells #[a, b, c, d] t)) w.heap.size a b c d := ⟨t, heap_alloc_new w _⟩
theorem Blk4.lt {w : World} {g : Nat} {a b c d : Value} (h : Blk4 w g a b c d) : g < w.heap.size := by
  obtain ⟨t, h⟩ := h
  exact (Array.getElem?_eq_some_iff.1 h).1
theorem Blk4.drew {w : World} {g : Nat} {a b c d : Value} (h : Blk4 w g a b c d) : Blk4 w.drew g a b c d := h
theorem Blk4.after {w w' : World} {g : Nat} {a b c d : Value} (h : Blk4 w g a b c d) (hb : Below w.heap.size w w') : Blk4 w' g a b c d := by
  have hl := h.lt
  obtain ⟨t, h⟩ := h
  exact ⟨t, (hb.block g hl).trans h⟩
theorem Blk4.grown {w w' : World} {g : Nat} {a b c d : Value} {row : Option Nat} (h : Blk4 w g a b c d) (hg : w.grownBy w' row) (hne : some g ≠ row) : Blk4 w' g a b c d := by
  have hl := h.lt
  obtain ⟨t, h⟩ := h
  exact ⟨t, (hg.block g hl hne).trans h⟩
theorem Blk4.facts {w : World} {g : Nat} {a b c d : Value} (h : Blk4 w g a b c d) : w.cell? ⟨g, 0, none⟩ = some a ∧ w.cell? ⟨g, 1, none⟩ = some b ∧ w.cell? ⟨g, 2, none⟩ = some c ∧ w.cell? ⟨g, 3, none⟩ = some d ∧ w.frozen? ⟨g, 0, none⟩ = false ∧ w.frozen? ⟨g, 1, none⟩ = false ∧ w.frozen? ⟨g, 2, none⟩ = false ∧ w.frozen? ⟨g, 3, none⟩ = false := by
  obtain ⟨t, h⟩ := h
  refine ⟨?_, ?_, ?_, ?_, frozen_of_row w g 0 _ t h, frozen_of_row w g 1 _ t h, frozen_of_row w g 2 _ t h, frozen_of_row w g 3 _ t h⟩
  · rw [cell_of_row w g 0 _ t (0, 0) h]; rfl
  · rw [cell_of_row w g 1 _ t (0, 0) h]; rfl
  · rw [cell_of_row w g 2 _ t (0, 0) h]; rfl
  · rw [cell_of_row w g 3 _ t (0, 0) h]; rfl
theorem Blk4.set3 {w : World} {g : Nat} {a b c d : Value} (h : Blk4 w g a b c d) (u : Value) : Blk4 (w.setCell ⟨g, 3, none⟩ u) g a b c u := by
  obtain ⟨t, h⟩ := h
  exact ⟨t, by rw [heap_setCell_same w g _ _ t u h]; rfl⟩
theorem Blk4.set2 {w : World} {g : Nat} {a b c d : Value} (h : Blk4 w g a b c d) (u : Value) : Blk4 (w.setCell ⟨g, 2, none⟩ u) g a b u d := by
  obtain ⟨t, h⟩ := h
  exact ⟨t, by rw [heap_setCell_same w g _ _ t u h]; rfl⟩
theorem Blk4.set1 {w : World} {g : Nat} {a b c d : Value} (h : Blk4 w g a b c d) (u : Value) : Blk4 (w.setCell ⟨g, 1, none⟩ u) g a u c d := by
  obtain ⟨t, h⟩ := h
  exact ⟨t, by rw [heap_setCell_same w g _ _ t u h]; rfl⟩
theorem Blk4.far {w : World} {g g' o : Nat} {a b c d : Value} (h : Blk4 w g a b c d) (u : Value) (hne : g ≠ g') : Blk4 (w.setCell ⟨g', o, none⟩ u) g a b c d := by
  obtain ⟨t, h⟩ := h
  exact ⟨t, by rw [heap_setCell_other w _ g u hne]; exact h⟩
theorem strs_one (l : List (List UInt8)) : ∀ u ∈ strs l, u.oneCell' = true := by
  intro u hu
  simp only [strs, List.mem_map] at hu
  obtain ⟨x, _, rfl⟩ := hu
  rfl
theorem cells4_at (w : World) (a b c d : Value) (t : TypeId) (B : Nat) (hB : w.heap.size = B) : ∀ j u, [a, b, c, d][j]? = some u → (w.alloc (.cells #[a, b, c, d] t)).cell? ((⟨B, 0, none⟩ : Addr).add j) = some u := by
  subst hB
  intro j u h
  match j, h with
  | 0, h => simp at h; subst h; simp [Addr.add]
  | 1, h => simp at h; subst h; simp [Addr.add]
  | 2, h => simp at h; subst h; simp [Addr.add]
  | 3, h => simp at h; subst h; simp [Addr.add]
theorem calledB_cases (st : List StageG) (x : List UInt8) : calledB st x = -1 ∨ ∃ k : Nat, k < st.length ∧ calledB st x = k := by
  unfold calledB
  cases h : st.findIdx? (fun y => y.name == x) with
  | none => exact .inl rfl
  | some k =>
    obtain ⟨hk, _⟩ := List.findIdx?_eq_some_iff_getElem.1 h
    exact .inr ⟨k, hk, rfl⟩
theorem varsOf_at {st : List StageG} {k : Nat} (h : k < st.length) : varsOf st (k : Int) = st[k].vars := by simp [varsOf, h]
theorem varsOf_neg {st : List StageG} {k : Int} (h : k < 0) : varsOf st k = [] := by unfold varsOf; rw [if_neg (by omega)]

/-- what 'from' and 'step' answer -/
def stagesOut (B : Nat) (w' : World) (e : Ending) : Except Flt (List StageG) → Prop
  | .error (f, p) => e = .returned (.tuple #[.slice none 0 0, faultV f p])
  | .ok st => ∃ ao c, e = .returned (.tuple #[.slice ao st.length c, faultV 0 (-1)]) ∧ StagesR B w' st ao c
theorem stagesOut_err {B : Nat} {w' : World} {e : Ending} {f p : Nat} {r : Except Flt (List StageG)} (h : r = .error (f, p)) (he : e = .returned (.tuple #[.slice none 0 0, faultV f p])) : stagesOut B w' e r := by subst h; exact he
theorem stagesOut_ok {B : Nat} {w' : World} {e : Ending} {st : List StageG} {r : Except Flt (List StageG)} {ao : Option Addr} {n c : Nat} (h : r = .ok st) (hn : n = st.length) (he : e = .returned (.tuple #[.slice ao n c, faultV 0 (-1)])) (hw : StagesR B w' st ao c) : stagesOut B w' e r := by subst h; subst hn; exact ⟨ao, c, he, hw⟩
/-- the fault's variable is new: what is written there turns nothing else -/
theorem two_new {B : Nat} {w wz : World} {st : List StageG} {ao : Option Addr} {c g : Nat} (hB : B ≤ w.heap.size) (h : Below B w wz) (k : KeepX w wz) (hg : w.heap.size ≤ g) (u1 u2 : Value) :
    Below B w ((wz.setCell ⟨g, 0, none⟩ u1).setCell ⟨g, 1, none⟩ u2) ∧ KeepX w ((wz.setCell ⟨g, 0, none⟩ u1).setCell ⟨g, 1, none⟩ u2) :=
  ⟨Below.setCell (Below.setCell h (Nat.le_trans hB hg) _) (Nat.le_trans hB hg) _, fun T a b c => ((k T a b c).setNew hg 0 u1).setNew hg 1 u2⟩
theorem StagesR.two {B : Nat} {w : World} {st : List StageG} {ao : Option Addr} {c g : Nat} (h : StagesR B w st ao c) (hT : BlkT w g tFault) (u1 u2 : Value) : StagesR B ((w.setCell ⟨g, 0, none⟩ u1).setCell ⟨g, 1, none⟩ u2) st ao c :=
  h.keep (KeepT.two hT (by decide) _ _) (KeepT.two hT (by decide) _ _) (KeepT.two hT (by decide) _ _) (KeepT.two hT (by decide) _ _) (KeepT.two hT (by decide) _ _) (by simp)

set_option maxRecDepth 100000 in
set_option maxHeartbeats 6000000 in
theorem fromR_a (st : List StageG) (ws : List WordG) (B : Nat) (ao : Option Addr) (b o c d : Nat) (w : World) (hst : StagesR B w st ao c) (hB : B ≤ w.heap.size) (hs5 : st.length ≤ 5) (hv5 : ∀ x ∈ st, x.vars.length ≤ 100) (hws : WordsR w (some ⟨b, o, none⟩) ws) (hg : GoodW ws) (hl2 : 2 ≤ ws.length) (hl2' : ws.length = 2) (hl4 : ws.length ≤ 4) (hd : ws.length ≤ d) (hd2 : d ≤ maxLen) :
    Calls Tryz.prog 13 #[.slice ao st.length c, .slice (some ⟨b, o, none⟩) ws.length d] w fun e w' => stagesOut B w' e (fromB st ws) ∧ Below B w w' ∧ KeepX w w' := by
  unfold maxLen at hd2
  obtain ⟨i0, hi0, hz0, hz1, hz2⟩ := info_parts (show (Tryz.prog.info? 56).map (fun i => (i.zero, i.size, i.bytes)) = some (some (.agg #[.string ByteArray.empty, .int .i64 0, .slice none 0 0, .slice none 0 0]), 4, 72) by kernel_rfl)
  obtain ⟨i1, hi1, hz3, hz4, hz5⟩ := info_parts (show (Tryz.prog.info? 9).map (fun i => (i.zero, i.size, i.bytes)) = some (some (.string ByteArray.empty), 1, 16) by kernel_rfl)
  obtain ⟨scs, hso, hsc⟩ := hst.all
  have hrs := (RdT.of_own hso).rd
  have hnm : ∀ k (h : k < st.length), scs[k * 4]? = some (.string (S st[k].name)) := fun k h => by
    obtain ⟨_, _, h1, _⟩ := hsc.get k h; exact h1
  have hsl := hsc.len
  obtain ⟨hb, a0, c0, m0, m0', r0⟩ := hws.at 0 (by omega)
  obtain ⟨-, a1, c1, m1, m1', r1⟩ := hws.at 1 (by omega)
  have hg1 := hg.nth 1 (by omega)
  have HW := Lib.hid hws
  have HR := Lib.hid hrs
  have HN := Lib.hid hnm
  have HSL := Lib.hid hsl
  have HR1 := Lib.hid r1
  have HG1 := Lib.hid hg1
  have HG := Lib.hid hg
  have HSO := Lib.hid hso
  have HSC := Lib.hid hsc
  have HV5 := Lib.hid hv5
  have htl1 := (nth ws 1).text_len
  simp only [Nat.zero_mul, Nat.add_zero, Nat.one_mul] at m0 m0' m1 m1'
  have F := Lib.hid (show ∀ wx, Below w.heap.size w wx → wx.cell? ⟨b, o + 1, none⟩ = some (.int .i64 (nth ws 0).at_) ∧ wx.cell? ⟨b, o + 2, none⟩ = some (.slice a1 (nth ws 1).l.length c1) ∧ wx.cell? ⟨b, o + 2 + 1, none⟩ = some (.int .i64 (nth ws 1).at_) from fun wx hx => ⟨(hx.cell (p := ⟨b, o + 1, none⟩) hb).trans m0', (hx.cell (p := ⟨b, o + 2, none⟩) hb).trans m1, (hx.cell (p := ⟨b, o + 2 + 1, none⟩) hb).trans m1'⟩)
  clear hst hso hsc hrs hnm hsl hws hg hg1 r0 r1 hv5
  have P := Lib.hid (Blk2.new w (.int .i64 0) (.int .i64 0) tFault)
  have PT := Lib.hid (BlkT.new w #[.int .i64 0, .int .i64 0] tFault)
  have HB := Lib.hid (show Below w.heap.size w (w.alloc (.cells #[.int .i64 0, .int .i64 0] tFault)) from (Below.refl _ _).alloc (Nat.le_refl _) _)
  · have hl3 : ((ws.length : Int) == 3) = false := by rw [hl2']; rfl
    have hl4' : ((ws.length : Int) == 4) = false := by rw [hl2']; rfl
    have HNB := Lib.hid (show nameB ws = .ok [] by unfold nameB; rw [if_neg (by omega)])
    clear hl2'
    cases hs : stageB (nth ws 1).text
    · have Y := Lib.hid (show fromB st ws = .error (5, (nth ws 1).at_) by unfold fromB; rw [HNB.out]; simp [hs])
      obtain ⟨k, hk⟩ : ∃ k, calledB st (nth ws 1).text = k := ⟨_, rfl⟩
      have HS1 := Lib.hid hs
      have HC1 := Lib.hid hk
      clear hs hk
      go_enter Tryz.func13, Tryz.ntmps13
      go_wp2_with (first
        | (go_at_call 11; refine (plainR_any _ _ _ _ (by first | exact HG1.out.1) (by first | (have := HG1.out.2; omega)) (ownsRow_below (by first | exact HR1.out) HB.out)).mono ?_; rintro e2 w2 ⟨rfl, hb2⟩; have P := Lib.hid (P.out.after hb2); have PT := Lib.hid (PT.out.after hb2); have HB := Lib.hid (HB.out.trans (hb2.mono HB.out.size)); have hzz := HB.out.size; obtain ⟨n0, n1, n2⟩ := F.out _ HB.out; clear hb2)
        | (go_at_call 24; refine (stageNameR_any _ _ (by first | (have := HG1.out.2; omega))).mono ?_; rintro e4 w4 ⟨rfl, rfl⟩; first | rw [HS1.out])
        | (go_at_call 25; refine (calledR_any st _ _ c scs _ (by omega) (HR.out.below HB.out) HSL.out HN.out).mono ?_; rintro e5 w5 ⟨rfl, rfl⟩; first | rw [HC1.out])
        | (go_at_call 9; refine (bad_any _ _ _).mono ?_; rintro e8 w8 ⟨rfl, hb2⟩; simp only [faultV]; have P := Lib.hid (P.out.after hb2); have PT := Lib.hid (PT.out.after hb2); have HB := Lib.hid (HB.out.trans (hb2.mono HB.out.size)); have hzz := HB.out.size; obtain ⟨n0, n1, n2⟩ := F.out _ HB.out; clear hb2; obtain ⟨d0, d1, d2, d3⟩ := P.out.facts))
      refine bodyPost_ret (by simp [results, Tryz.results13, go_sem, d0, d1]; try rfl) rfl ?_
      exact ⟨stagesOut_err Y.out rfl, two_new (st := st) (ao := none) (c := c) hB (HB.out.mono hB) (KeepX.below HB.out) (Nat.le_refl _) _ _⟩
    · have HS1 := Lib.hid hs
      rcases calledB_cases st (nth ws 1).text with hk | ⟨k, hkl, hk⟩
      · have HC1 := Lib.hid hk
        by_cases hsc : (nth ws 1).text = wSCRATCH
        · have hsc' : ((nth ws 1).text == [115, 99, 114, 97, 116, 99, 104]) = true := by rw [hsc]; decide
          have HQ := Lib.hid (show ∀ r, (if stageB (nth ws 1).text = false then (.error (5, (nth ws 1).at_) : Except Flt (List StageG)) else if calledB st (nth ws 1).text < 0 ∧ (nth ws 1).text ≠ wSCRATCH then .error (6, (nth ws 1).at_) else r) = r from fun r => by rw [hs, hk]; simp [hsc])
          have HVO := Lib.hid (show varsOf st (calledB st (nth ws 1).text) = [] by rw [hk]; exact varsOf_neg (by omega))
          have HK := Lib.hid hk
          clear hs hk hsc
          have HQ2 := Lib.hid (show ∀ r : Except Flt (List StageG), (if ([] : List UInt8) ≠ [] ∧ (([] : List UInt8) = wSCRATCH ∨ 0 ≤ calledB st []) then .error (6, (nth ws 3).at_) else r) = r from fun r => by rw [if_neg]; simp)
          by_cases h5 : st.length = 5
          · have h5' : ((st.length : Int) == 5) = true := by rw [h5]; rfl
            have Y := Lib.hid (show fromB st ws = .error (10, (nth ws 0).at_) by unfold fromB; rw [HNB.out]; simp only; rw [HQ.out, HQ2.out, if_pos h5])
            clear h5
            go_enter Tryz.func13, Tryz.ntmps13
            go_wp2_with (first
              | (go_at_call 11; refine (plainR_any _ _ _ _ (by first | exact HG1.out.1) (by first | (have := HG1.out.2; omega)) (ownsRow_below (by first | exact HR1.out) HB.out)).mono ?_; rintro e2 w2 ⟨rfl, hb2⟩; have P := Lib.hid (P.out.after hb2); have PT := Lib.hid (PT.out.after hb2); have HB := Lib.hid (HB.out.trans (hb2.mono HB.out.size)); have hzz := HB.out.size; obtain ⟨n0, n1, n2⟩ := F.out _ HB.out; clear hb2)
              | (go_at_call 24; refine (stageNameR_any _ _ (by first | (have := HG1.out.2; omega))).mono ?_; rintro e4 w4 ⟨rfl, rfl⟩; first | rw [HS1.out])
              | (go_at_call 25; refine (calledR_any st _ _ c scs _ (by omega) (HR.out.below HB.out) HSL.out HN.out).mono ?_; rintro e5 w5 ⟨rfl, rfl⟩; first | rw [HC1.out])
              | (go_at_call 9; refine (bad_any _ _ _).mono ?_; rintro e8 w8 ⟨rfl, hb2⟩; simp only [faultV]; have P := Lib.hid (P.out.after hb2); have PT := Lib.hid (PT.out.after hb2); have HB := Lib.hid (HB.out.trans (hb2.mono HB.out.size)); have hzz := HB.out.size; obtain ⟨n0, n1, n2⟩ := F.out _ HB.out; clear hb2; obtain ⟨d0, d1, d2, d3⟩ := P.out.facts))
            refine bodyPost_ret (by simp [results, Tryz.results13, go_sem, d0, d1]; try rfl) rfl ?_
            exact ⟨stagesOut_err Y.out rfl, two_new (st := st) (ao := none) (c := c) hB (HB.out.mono hB) (KeepX.below HB.out) (Nat.le_refl _) _ _⟩
          · have h5' : ((st.length : Int) == 5) = false := by rw [beq_eq_false_iff_ne]; omega
            have Y := Lib.hid (show fromB st ws = .ok (st ++ [⟨[], -1, [], []⟩]) by unfold fromB; rw [HNB.out]; simp only; rw [HQ.out, HQ2.out, if_neg h5, HVO.out, HK.out])
            go_enter Tryz.func13, Tryz.ntmps13
            go_wp2_with (first
              | (go_at_call 11; refine (plainR_any _ _ _ _ (by first | exact HG1.out.1) (by first | (have := HG1.out.2; omega)) (ownsRow_below (by first | exact HR1.out) HB.out)).mono ?_; rintro e2 w2 ⟨rfl, hb2⟩; have P := Lib.hid (P.out.after hb2); have PT := Lib.hid (PT.out.after hb2); have HB := Lib.hid (HB.out.trans (hb2.mono HB.out.size)); have hzz := HB.out.size; obtain ⟨n0, n1, n2⟩ := F.out _ HB.out; clear hb2)
              | (go_at_call 24; refine (stageNameR_any _ _ (by first | (have := HG1.out.2; omega))).mono ?_; rintro e4 w4 ⟨rfl, rfl⟩; first | rw [HS1.out])
              | (go_at_call 25; refine (calledR_any st _ _ c scs _ (by omega) (HR.out.below HB.out) HSL.out HN.out).mono ?_; rintro e5 w5 ⟨rfl, rfl⟩; first | rw [HC1.out])
              | (at_builtin; refine wpList_append_own _ rfl _ _ 25 rfl B tStage i0 (.agg #[.string ByteArray.empty, .int .i64 0, .slice none 0 0, .slice none 0 0]) 4 72 Tryz.underlying25 hi0 hz0 hz1 hz2 rfl (by decide) _ _ _ rfl (ownsRow_below HSO.out ((HB.out.alloc (by omega) _).alloc (by simp; omega) _)) ⟨_, 0, none⟩ 1 1 [.string (S []), .int .i64 (-1), .slice none 0 0, .slice none 0 0] rfl rfl (cells4_at _ _ _ _ _ _ _ (by simp)) (by simp [Value.oneCell']) (by unfold maxLen; omega) (by omega) (by simp; omega) ?_; intro v' w3 hown3 hgr3 _; obtain ⟨ao', c', rfl⟩ := ownsRow_form hown3; have PP := StagesR.push (x := ⟨[], -1, [], []⟩) HSO.out HSC.out ((HB.out.alloc (by omega) _).alloc (by simp; omega) _) hgr3 ⟨⟨[], World.ownsRow_nil _ _ _ _, rfl⟩, World.ownsRow_nil _ _ _ _, by simp [Value.ownBlock], by simp [Value.ownBlock]⟩ hown3 hB; have HP := Lib.hid PP.1; have HX := Lib.hid PP.2; have P := Lib.hid (((P.out.alloc _).alloc _).grown hgr3 (own_new HSO.out)); have PT := Lib.hid (((PT.out.alloc _).alloc _).grown hgr3 (own_new HSO.out)); have HB3 := Lib.hid ((((HB.out.alloc (by omega) _).alloc (by simp; omega) _).mono hB).grown hgr3 (by simp; omega) (own_le HSO.out)); clear hown3 hgr3 PP)
              | (go_at_call 15; refine (fine_any _).mono ?_; rintro e8 w8 ⟨rfl, hb8⟩; simp only [faultV]; obtain ⟨d0, d1, d2, d3⟩ := (P.out.after hb8).facts; have HB8 := Lib.hid hb8; clear hb8))
            refine bodyPost_ret (by simp [results, Tryz.results13, go_sem, d0, d1]; try rfl) rfl ?_
            exact ⟨stagesOut_ok Y.out (by simp) rfl ((HP.out.after HB8.out).two (PT.out.after HB8.out) _ _), two_new (st := st) (ao := none) (c := c) hB (HB3.out.trans (HB8.out.mono (Nat.le_trans hB HB3.out.size))) (HX.out.trans (KeepX.below HB8.out)) (Nat.le_refl _) _ _⟩
        · have hsc' : ((nth ws 1).text == [115, 99, 114, 97, 116, 99, 104]) = false := by simpa using (show ¬ (nth ws 1).text = [115, 99, 114, 97, 116, 99, 104] from hsc)
          have Y := Lib.hid (show fromB st ws = .error (6, (nth ws 1).at_) by unfold fromB; rw [HNB.out]; simp [hs, hk, hsc])
          clear hs hk hsc
          go_enter Tryz.func13, Tryz.ntmps13
          go_wp2_with (first
            | (go_at_call 11; refine (plainR_any _ _ _ _ (by first | exact HG1.out.1) (by first | (have := HG1.out.2; omega)) (ownsRow_below (by first | exact HR1.out) HB.out)).mono ?_; rintro e2 w2 ⟨rfl, hb2⟩; have P := Lib.hid (P.out.after hb2); have PT := Lib.hid (PT.out.after hb2); have HB := Lib.hid (HB.out.trans (hb2.mono HB.out.size)); have hzz := HB.out.size; obtain ⟨n0, n1, n2⟩ := F.out _ HB.out; clear hb2)
            | (go_at_call 24; refine (stageNameR_any _ _ (by first | (have := HG1.out.2; omega))).mono ?_; rintro e4 w4 ⟨rfl, rfl⟩; first | rw [HS1.out])
            | (go_at_call 25; refine (calledR_any st _ _ c scs _ (by omega) (HR.out.below HB.out) HSL.out HN.out).mono ?_; rintro e5 w5 ⟨rfl, rfl⟩; first | rw [HC1.out])
            | (go_at_call 9; refine (bad_any _ _ _).mono ?_; rintro e8 w8 ⟨rfl, hb2⟩; simp only [faultV]; have P := Lib.hid (P.out.after hb2); have PT := Lib.hid (PT.out.after hb2); have HB := Lib.hid (HB.out.trans (hb2.mono HB.out.size)); have hzz := HB.out.size; obtain ⟨n0, n1, n2⟩ := F.out _ HB.out; clear hb2; obtain ⟨d0, d1, d2, d3⟩ := P.out.facts))
          refine bodyPost_ret (by simp [results, Tryz.results13, go_sem, d0, d1]; try rfl) rfl ?_
          exact ⟨stagesOut_err Y.out rfl, two_new (st := st) (ao := none) (c := c) hB (HB.out.mono hB) (KeepX.below HB.out) (Nat.le_refl _) _ _⟩
      · have HC1 := Lib.hid hk
        have HQ := Lib.hid (show ∀ r, (if stageB (nth ws 1).text = false then (.error (5, (nth ws 1).at_) : Except Flt (List StageG)) else if calledB st (nth ws 1).text < 0 ∧ (nth ws 1).text ≠ wSCRATCH then .error (6, (nth ws 1).at_) else r) = r from fun r => by rw [hs, hk, if_neg (by simp), if_neg (by omega)])
        have HVO := Lib.hid (show varsOf st (calledB st (nth ws 1).text) = st[k].vars by rw [hk]; exact varsOf_at hkl)
        have HK := Lib.hid hk
        clear hs hk
        have HQ2 := Lib.hid (show ∀ r : Except Flt (List StageG), (if ([] : List UInt8) ≠ [] ∧ (([] : List UInt8) = wSCRATCH ∨ 0 ≤ calledB st []) then .error (6, (nth ws 3).at_) else r) = r from fun r => by rw [if_neg]; simp)
        by_cases h5 : st.length = 5
        · have h5' : ((st.length : Int) == 5) = true := by rw [h5]; rfl
          have Y := Lib.hid (show fromB st ws = .error (10, (nth ws 0).at_) by unfold fromB; rw [HNB.out]; simp only; rw [HQ.out, HQ2.out, if_pos h5])
          clear h5
          go_enter Tryz.func13, Tryz.ntmps13
          go_wp2_with (first
            | (go_at_call 11; refine (plainR_any _ _ _ _ (by first | exact HG1.out.1) (by first | (have := HG1.out.2; omega)) (ownsRow_below (by first | exact HR1.out) HB.out)).mono ?_; rintro e2 w2 ⟨rfl, hb2⟩; have P := Lib.hid (P.out.after hb2); have PT := Lib.hid (PT.out.after hb2); have HB := Lib.hid (HB.out.trans (hb2.mono HB.out.size)); have hzz := HB.out.size; obtain ⟨n0, n1, n2⟩ := F.out _ HB.out; clear hb2)
            | (go_at_call 24; refine (stageNameR_any _ _ (by first | (have := HG1.out.2; omega))).mono ?_; rintro e4 w4 ⟨rfl, rfl⟩; first | rw [HS1.out])
            | (go_at_call 25; refine (calledR_any st _ _ c scs _ (by omega) (HR.out.below HB.out) HSL.out HN.out).mono ?_; rintro e5 w5 ⟨rfl, rfl⟩; first | rw [HC1.out])
            | (go_at_call 9; refine (bad_any _ _ _).mono ?_; rintro e8 w8 ⟨rfl, hb2⟩; simp only [faultV]; have P := Lib.hid (P.out.after hb2); have PT := Lib.hid (PT.out.after hb2); have HB := Lib.hid (HB.out.trans (hb2.mono HB.out.size)); have hzz := HB.out.size; obtain ⟨n0, n1, n2⟩ := F.out _ HB.out; clear hb2; obtain ⟨d0, d1, d2, d3⟩ := P.out.facts))
          refine bodyPost_ret (by simp [results, Tryz.results13, go_sem, d0, d1]; try rfl) rfl ?_
          exact ⟨stagesOut_err Y.out rfl, two_new (st := st) (ao := none) (c := c) hB (HB.out.mono hB) (KeepX.below HB.out) (Nat.le_refl _) _ _⟩
        · have h5' : ((st.length : Int) == 5) = false := by rw [beq_eq_false_iff_ne]; omega
          have Y := Lib.hid (show fromB st ws = .ok (st ++ [⟨[], (k : Int), [], st[k].vars⟩]) by unfold fromB; rw [HNB.out]; simp only; rw [HQ.out, HQ2.out, if_neg h5, HVO.out, HK.out])
          obtain ⟨sv, vv, -, -, -, g4, hat⟩ := HSC.out.get k hkl
          obtain ⟨b2, o2, rfl, hb2', hc2⟩ := HR.out.at (k * 4 + 3) (by rw [HSL.out]; omega)
          obtain ⟨va, vc, rfl⟩ := ownsRow_form hat.vars
          have HVV := Lib.hid (ownsRow_base hat.vars (Nat.zero_le _))
          have hvl : st[k].vars.length ≤ 100 := HV5.out _ (List.getElem_mem hkl)
          have m4 : w.cell? ⟨b2, o2 + (k * 4 + 3), none⟩ = some (.slice va st[k].vars.length vc) := hc2 _ _ g4
          clear g4 hat hc2
          have F4 := Lib.hid (show ∀ wx, Below w.heap.size w wx → wx.cell? ⟨b2, o2 + k * 4 + 3, none⟩ = some (.slice va st[k].vars.length vc) from fun wx hx => by rw [Nat.add_assoc]; exact (hx.cell (p := ⟨b2, o2 + (k * 4 + 3), none⟩) hb2').trans m4)
          go_enter Tryz.func13, Tryz.ntmps13
          go_wp2_with (first
            | (go_at_call 11; refine (plainR_any _ _ _ _ (by first | exact HG1.out.1) (by first | (have := HG1.out.2; omega)) (ownsRow_below (by first | exact HR1.out) HB.out)).mono ?_; rintro e2 w2 ⟨rfl, hb2⟩; have P := Lib.hid (P.out.after hb2); have PT := Lib.hid (PT.out.after hb2); have HB := Lib.hid (HB.out.trans (hb2.mono HB.out.size)); have hzz := HB.out.size; obtain ⟨n0, n1, n2⟩ := F.out _ HB.out; clear hb2)
            | (go_at_call 24; refine (stageNameR_any _ _ (by first | (have := HG1.out.2; omega))).mono ?_; rintro e4 w4 ⟨rfl, rfl⟩; first | rw [HS1.out])
            | (go_at_call 25; refine (calledR_any st _ _ c scs _ (by omega) (HR.out.below HB.out) HSL.out HN.out).mono ?_; rintro e5 w5 ⟨rfl, rfl⟩; first | rw [HC1.out]; have n9 := F4.out _ HB.out; have lt9 := Nat.lt_of_lt_of_le hb2' HB.out.size))
          go_region_law (refine step_append_row (by rfl) (.tmp 125) (.tmp 130) 54 (by rfl) w.heap.size tText i1 (.string ByteArray.empty) 1 16 Tryz.underlying54 hi1 hz3 hz4 hz5 (by rfl) (by decide) (.slice none 0 0) 0 [] (by rfl) (World.ownsRow_nil _ _ _ _) (.slice va st[k].vars.length vc) st[k].vars.length 0 (strs st[k].vars) (by rfl) (ownsRow_below HVV.out (HB.out.alloc (by omega) _).drew) (strs_one _) (by unfold maxLen; omega) (by omega) (by simp; omega) ?_; intro va' vc' w9 hown9 hgr9; simp only [List.nil_append, Nat.zero_add] at hown9; have hz9 := hgr9.size; have HB9 := Lib.hid ((HB.out.alloc (by omega) _).drew.grown hgr9 (by simp; omega) (fun z hz => by simp [Value.ownBlock] at hz)); have P9 := Lib.hid ((P.out.alloc _).drew.grown hgr9 (by simp [Value.ownBlock])); have PT9 := Lib.hid ((PT.out.alloc _).drew.grown hgr9 (by simp [Value.ownBlock])); obtain ⟨x1, x2, x3, x4, x5, x6, x7, x8⟩ := Blk4.facts ((Blk4.new _ _ _ _ _ _).drew.grown hgr9 (by simp [Value.ownBlock])); have BT9 := Lib.hid ((BlkT.new _ _ tStage).drew.grown hgr9 (by simp [Value.ownBlock])); have O9 := Lib.hid hown9; clear hown9 hgr9)
          all_goals
            have ne9 : w.heap.size ≠ w2.heap.size := by have := P.out.lt; omega
            have HBX := Lib.hid ((HB9.out.setCell (p := ⟨w2.heap.size, 3, none⟩) HB.out.size (.slice va' st[k].vars.length vc')).alloc (by simp only [World.size_setCell]; exact HB9.out.size) (.cells #[.string (S []), .int .i64 (k : Int), .slice none 0 0, .slice va' st[k].vars.length vc'] tStage))
            have OX := Lib.hid ((ownsRow_keep O9.out (KeepT.setT BT9.out (by decide) 3 (.slice va' st[k].vars.length vc'))).alloc (.cells #[.string (S []), .int .i64 (k : Int), .slice none 0 0, .slice va' st[k].vars.length vc'] tStage))
            have PX := Lib.hid ((P9.out.far (o := 3) (.slice va' st[k].vars.length vc') ne9).alloc (.cells #[.string (S []), .int .i64 (k : Int), .slice none 0 0, .slice va' st[k].vars.length vc'] tStage))
            have PTX := Lib.hid ((PT9.out.far (o := 3) (.slice va' st[k].vars.length vc') ne9).alloc (.cells #[.string (S []), .int .i64 (k : Int), .slice none 0 0, .slice va' st[k].vars.length vc'] tStage))
            have szX := HBX.out.size
            go_wp2_with (first
              | (at_builtin; refine wpList_append_own _ rfl _ _ 25 rfl B tStage i0 (.agg #[.string ByteArray.empty, .int .i64 0, .slice none 0 0, .slice none 0 0]) 4 72 Tryz.underlying25 hi0 hz0 hz1 hz2 rfl (by decide) _ _ _ rfl (ownsRow_below HSO.out HBX.out) ⟨_, 0, none⟩ 1 1 [.string (S []), .int .i64 (k : Int), .slice none 0 0, .slice va' st[k].vars.length vc'] rfl rfl (cells4_at _ _ _ _ _ _ _ (by simp)) (by simp [Value.oneCell']) (by unfold maxLen; omega) (by omega) (Nat.le_trans hB szX) ?_; intro v' w3 hown3 hgr3 _; obtain ⟨ao', c', rfl⟩ := ownsRow_form hown3; have PP := StagesR.push (x := ⟨[], (k : Int), [], st[k].vars⟩) HSO.out HSC.out HBX.out hgr3 ⟨⟨[], World.ownsRow_nil _ _ _ _, rfl⟩, OX.out, by simp [Value.ownBlock], own_lt OX.out⟩ hown3 hB; have HP := Lib.hid PP.1; have HX := Lib.hid PP.2; have P := Lib.hid (PX.out.grown hgr3 (own_new HSO.out)); have PT := Lib.hid (PTX.out.grown hgr3 (own_new HSO.out)); have HB3 := Lib.hid ((HBX.out.mono hB).grown hgr3 (Nat.le_trans hB szX) (own_le HSO.out)); clear hown3 hgr3 PP)
              | (go_at_call 15; refine (fine_any _).mono ?_; rintro e8 w8 ⟨rfl, hb8⟩; simp only [faultV]; obtain ⟨d0, d1, d2, d3⟩ := (P.out.after hb8).facts; have HB8 := Lib.hid hb8; clear hb8))
            refine bodyPost_ret (by simp [results, Tryz.results13, go_sem, d0, d1]; try rfl) rfl ?_
            exact ⟨stagesOut_ok Y.out (by simp) rfl ((HP.out.after HB8.out).two (PT.out.after HB8.out) _ _), two_new (st := st) (ao := none) (c := c) hB (HB3.out.trans (HB8.out.mono (Nat.le_trans hB HB3.out.size))) (HX.out.trans (KeepX.below HB8.out)) (Nat.le_refl _) _ _⟩
end Go.Proofs.YtflggoddfjmljaaGreatDoor
namespace Go.Proofs.YtflggoddfjmljaaGreatDoor
open Go.RowKit

/-- a cell of an owned row is written -/
theorem ownsRow_set {w : World} {base : Nat} {e : TypeId} {size n c g : Nat} {xs : List Value} (h : w.ownsRow base e size (.slice (some ⟨g, 0, none⟩) n c) n xs) (j : Nat) (u : Value) (hj : j < n * size) :
    (w.setCell ⟨g, j, none⟩ u).ownsRow base e size (.slice (some ⟨g, 0, none⟩) n c) n (xs.set j u) := by
  obtain ⟨h1, h2⟩ := h
  refine ⟨by simpa using h1, ?_⟩
  rcases h2 with ⟨e1, _⟩ | ⟨g', cap, cur, e1, hg, hh, hn, hm, r1, r2⟩
  · simp at e1
  · simp only [Value.slice.injEq, Option.some.injEq, Addr.mk.injEq] at e1
    obtain ⟨⟨rfl, -, -⟩, -, rfl⟩ := e1
    refine .inr ⟨g, c, cur.setIfInBounds j u, rfl, hg, heap_setCell_same w g j cur e u hh, hn, hm, by simpa using r1, ?_⟩
    rw [← r2]
    apply List.ext_getElem?
    intro k
    simp only [Array.toList_setIfInBounds, List.getElem?_take, List.getElem?_set]
    by_cases hk : k < n * size
    · simp only [hk, if_true]
      by_cases hjk : j = k
      · subst hjk
        have hle : n * size ≤ cur.size := by rw [r1]; exact Nat.mul_le_mul_right _ hn
        simp [hk, show j < cur.size by omega]
        omega
      · simp [hjk]
    · simp only [hk, if_false]
      by_cases hjk : j = k
      · omega
      · simp [hjk]

/-- the last stage, by its rows -/
structure LastR (B H : Nat) (w : World) (init : List StageG) (y : StageG) (gb c : Nat) (cs0 : List Value) (sv vv : Value) (scs : List Value) : Prop where
  own : w.ownsRow B tStage 4 (.slice (some ⟨gb, 0, none⟩) (init.length + 1) c) (init.length + 1) (cs0 ++ [.string (S y.name), .int .i64 y.base, sv, vv])
  ini : StageCells B H w init cs0
  steps : w.ownsRow H tStep 4 sv y.steps.length scs
  cells : StepCells w y.steps scs
  vars : w.ownsRow H tText 1 vv y.vars.length (strs y.vars)
  hH : H ≤ w.heap.size
  hB : B ≤ H
theorem StagesR.last {B : Nat} {w : World} {st : List StageG} {ao : Option Addr} {c : Nat} (h : StagesR B w st ao c) (hne : st ≠ []) :
    ∃ H init y gb cs0 sv vv scs, st = init ++ [y] ∧ ao = some ⟨gb, 0, none⟩ ∧ LastR B H w init y gb c cs0 sv vv scs := by
  obtain ⟨H, init, last, cs0, cs1, rfl, h1, h2, h3, h4, h5, h6, h7⟩ := h.lies
  match last, h1, h2, h7, h5, hne with
  | [], _, h2, _, _, hne => exact absurd (by simp [h2 rfl]) hne
  | [y], _, _, h7, h5, _ =>
    obtain ⟨sv, vv, rest, rfl, ha, hr⟩ := h7
    simp only [StageCells] at hr
    subst hr
    obtain ⟨scs, a1, a2⟩ := ha.steps
    have h5' := h5
    rcases h5.2 with ⟨e, e2⟩ | ⟨gb, cap, cur, e, r⟩
    · simp at e2
    · simp only [Value.slice.injEq] at e
      obtain ⟨rfl, -, -⟩ := e
      rw [List.length_append] at h5'
      exact ⟨H, init, y, gb, cs0, sv, vv, scs, rfl, rfl, h5', h6, a1, a2, ha.vars, h3, h4⟩
theorem LastR.stages {B H : Nat} {w : World} {init : List StageG} {y : StageG} {gb c : Nat} {cs0 : List Value} {sv vv : Value} {scs : List Value} (h : LastR B H w init y gb c cs0 sv vv scs) : StagesR B w (init ++ [y]) (some ⟨gb, 0, none⟩) c := by
  refine ⟨H, init, [y], cs0, _, rfl, by simp, by simp, h.hH, h.hB, ?_, h.ini, ⟨sv, vv, [], rfl, ⟨⟨scs, h.steps, h.cells⟩, h.vars, own_lt h.steps, own_lt h.vars⟩, rfl⟩⟩
  rw [List.length_append]; exact h.own
theorem LastR.facts {B H : Nat} {w : World} {init : List StageG} {y : StageG} {gb c : Nat} {cs0 : List Value} {sv vv : Value} {scs : List Value} (h : LastR B H w init y gb c cs0 sv vv scs) :
    gb < w.heap.size ∧ w.cell? ⟨gb, init.length * 4 + 2, none⟩ = some sv ∧ w.cell? ⟨gb, init.length * 4 + 3, none⟩ = some vv ∧ w.frozen? ⟨gb, init.length * 4 + 2, none⟩ = false ∧ w.frozen? ⟨gb, init.length * 4 + 3, none⟩ = false := by
  have hl := h.ini.len
  have hc := h.own.cells (g := gb) rfl
  have ha : ∀ j, (⟨gb, 0, none⟩ : Addr).add j = ⟨gb, j, none⟩ := fun j => by unfold Addr.add; split <;> simp_all
  have h2 := hc (init.length * 4 + 2) sv (by rw [List.getElem?_append_right (by omega), hl]; simp)
  have h3 := hc (init.length * 4 + 3) vv (by rw [List.getElem?_append_right (by omega), hl]; simp)
  rw [ha] at h2 h3
  rcases h.own.2 with ⟨e, _⟩ | ⟨gb', cap, cur, e, hg, hh, r⟩
  · simp at e
  · simp only [Value.slice.injEq, Option.some.injEq, Addr.mk.injEq] at e
    obtain ⟨⟨rfl, -, -⟩, -, -⟩ := e
    exact ⟨(Array.getElem?_eq_some_iff.1 hh).1, h2, h3, frozen_of_row w gb _ _ _ hh, frozen_of_row w gb _ _ _ hh⟩
theorem LastR.blkT {B H : Nat} {w : World} {init : List StageG} {y : StageG} {gb c : Nat} {cs0 : List Value} {sv vv : Value} {scs : List Value} (h : LastR B H w init y gb c cs0 sv vv scs) : BlkT w gb tStage ∧ B ≤ gb := by
  rcases h.own.2 with ⟨e, _⟩ | ⟨gb', cap, cur, e, hg, hh, r⟩
  · simp at e
  · simp only [Value.slice.injEq, Option.some.injEq, Addr.mk.injEq] at e
    obtain ⟨⟨rfl, -, -⟩, -, -⟩ := e
    exact ⟨⟨_, hh⟩, hg⟩
theorem LastR.after {B H : Nat} {w w' : World} {init : List StageG} {y : StageG} {gb c : Nat} {cs0 : List Value} {sv vv : Value} {scs : List Value} (h : LastR B H w init y gb c cs0 sv vv scs) (hb : Below w.heap.size w w') : LastR B H w' init y gb c cs0 sv vv scs := by
  have hT : ∀ T, KeepT T w w' := fun T => KeepT.below hb
  exact ⟨ownsRow_keep h.own (hT _), h.ini.stays (hT _) (hT _) (fun g cur _ e => hT _ g cur e) (fun g cur _ e => hT _ g cur e), ownsRow_keep h.steps (hT _), h.cells.keep (hT _) (hT _), ownsRow_keep h.vars (hT _), Nat.le_trans h.hH hb.size, h.hB⟩
theorem ownsRow_low {w w' : World} {T : TypeId} {base size n : Nat} {v : Value} {xs : List Value} (h : w.ownsRow base T size v n xs) (hk : ∀ g cur, g < w.heap.size → w.heap[g]? = some (Obj.cells cur T (0, 0)) → w'.heap[g]? = some (Obj.cells cur T (0, 0))) : w'.ownsRow base T size v n xs :=
  ownsRow_keep h (fun g cur e => hk g cur (Array.getElem?_eq_some_iff.1 e).1 e)
theorem set_end3 (cs0 : List Value) (a b sv vv u : Value) (m : Nat) (h : cs0.length = m * 4) : (cs0 ++ [a, b, sv, vv]).set (m * 4 + 3) u = cs0 ++ [a, b, sv, u] := by
  rw [List.set_append_right _ _ (by omega), h]; simp
theorem set_end2 (cs0 : List Value) (a b sv vv u : Value) (m : Nat) (h : cs0.length = m * 4) : (cs0 ++ [a, b, sv, vv]).set (m * 4 + 2) u = cs0 ++ [a, b, u, vv] := by
  rw [List.set_append_right _ _ (by omega), h]; simp
/-- a variable more: the append, then its store -/
theorem LastR.pushVar {B H : Nat} {w w2 : World} {init : List StageG} {y : StageG} {gb c : Nat} {cs0 : List Value} {sv vv vv' : Value} {scs : List Value} {x : List UInt8} (h : LastR B H w init y gb c cs0 sv vv scs)
    (hg : w.grownBy w2 vv.ownBlock) (hown : w2.ownsRow H tText 1 vv' (y.vars.length + 1) (strs y.vars ++ [.string (S x)])) :
    LastR B H (w2.setCell ⟨gb, init.length * 4 + 3, none⟩ vv') init ⟨y.name, y.base, y.steps, y.vars ++ [x]⟩ gb c cs0 sv vv' scs ∧ KeepX w (w2.setCell ⟨gb, init.length * 4 + 3, none⟩ vv') ∧ Below B w (w2.setCell ⟨gb, init.length * 4 + 3, none⟩ vv') := by
  have hT : ∀ T, T ≠ tText → KeepT T w w2 := fun T hne => KeepT.grown hg h.vars (fun e => hne e.symm)
  obtain ⟨⟨cs, hbt⟩, hBg⟩ := h.blkT
  have hb2 : BlkT w2 gb tStage := ⟨cs, hT tStage (by decide) gb cs hbt⟩
  have hS : ∀ T, T ≠ tStage → KeepT T w2 (w2.setCell ⟨gb, init.length * 4 + 3, none⟩ vv') := fun T hne => KeepT.setT hb2 (fun e => hne e.symm) _ _
  have hTT : ∀ T, T ≠ tText → T ≠ tStage → KeepT T w (w2.setCell ⟨gb, init.length * 4 + 3, none⟩ vv') := fun T h1 h2 => (hT T h1).trans (hS T h2)
  have hlow : ∀ g cur, g < H → w.heap[g]? = some (Obj.cells cur tText (0, 0)) → (w2.setCell ⟨gb, init.length * 4 + 3, none⟩ vv').heap[g]? = some (Obj.cells cur tText (0, 0)) := by
    intro g cur hgH e
    refine hS tText (by decide) g cur ((hg.block g (Array.getElem?_eq_some_iff.1 e).1 ?_).trans e)
    intro e2; have := own_le h.vars g e2.symm; omega
  refine ⟨⟨?_, ?_, ownsRow_keep h.steps (hTT _ (by decide) (by decide)), h.cells.keep (hTT _ (by decide) (by decide)) (hTT _ (by decide) (by decide)), ?_, ?_, h.hB⟩, fun T h1 h2 h3 => hTT T h3 h1, ?_⟩
  · have := ownsRow_set (ownsRow_keep h.own (hT _ (by decide))) (init.length * 4 + 3) vv' (by omega)
    rwa [set_end3 _ _ _ _ _ _ _ h.ini.len] at this
  · exact h.ini.stays (hTT _ (by decide) (by decide)) (hTT _ (by decide) (by decide)) (fun g cur _ e => hTT tStep (by decide) (by decide) g cur e) hlow
  · show World.ownsRow _ H tText 1 vv' (y.vars ++ [x]).length (strs (y.vars ++ [x]))
    rw [List.length_append, show strs (y.vars ++ [x]) = strs y.vars ++ [.string (S x)] by simp [strs]]
    exact ownsRow_keep hown (hS _ (by decide))
  · rw [World.size_setCell]; exact Nat.le_trans h.hH hg.size
  · exact Below.setCell ((Below.refl B w).grown hg (Nat.le_trans h.hB h.hH) (fun k hk => Nat.le_trans h.hB (own_le h.vars k hk))) hBg _
/-- a step more: the append, then its store -/
theorem LastR.pushStep {B H : Nat} {w w2 : World} {init : List StageG} {y : StageG} {gb c : Nat} {cs0 : List Value} {sv vv sv' : Value} {scs : List Value} {x : StepG} {A : Option Addr} {d : Nat} (h : LastR B H w init y gb c cs0 sv vv scs)
    (hx : WordsR w A x.words) (hg : w.grownBy w2 sv.ownBlock) (hown : w2.ownsRow H tStep 4 sv' (y.steps.length + 1) (scs ++ [.string (S x.op), .slice A x.words.length d, .int .i64 x.stage, .int .i64 x.at_])) :
    ∃ scs', LastR B H (w2.setCell ⟨gb, init.length * 4 + 2, none⟩ sv') init ⟨y.name, y.base, y.steps ++ [x], y.vars⟩ gb c cs0 sv' vv scs' ∧ KeepX w (w2.setCell ⟨gb, init.length * 4 + 2, none⟩ sv') ∧ Below B w (w2.setCell ⟨gb, init.length * 4 + 2, none⟩ sv') := by
  have hT : ∀ T, T ≠ tStep → KeepT T w w2 := fun T hne => KeepT.grown hg h.steps (fun e => hne e.symm)
  obtain ⟨⟨cs, hbt⟩, hBg⟩ := h.blkT
  have hb2 : BlkT w2 gb tStage := ⟨cs, hT tStage (by decide) gb cs hbt⟩
  have hS : ∀ T, T ≠ tStage → KeepT T w2 (w2.setCell ⟨gb, init.length * 4 + 2, none⟩ sv') := fun T hne => KeepT.setT hb2 (fun e => hne e.symm) _ _
  have hTT : ∀ T, T ≠ tStep → T ≠ tStage → KeepT T w (w2.setCell ⟨gb, init.length * 4 + 2, none⟩ sv') := fun T h1 h2 => (hT T h1).trans (hS T h2)
  have hlow : ∀ g cur, g < H → w.heap[g]? = some (Obj.cells cur tStep (0, 0)) → (w2.setCell ⟨gb, init.length * 4 + 2, none⟩ sv').heap[g]? = some (Obj.cells cur tStep (0, 0)) := by
    intro g cur hgH e
    refine hS tStep (by decide) g cur ((hg.block g (Array.getElem?_eq_some_iff.1 e).1 ?_).trans e)
    intro e2; have := own_le h.steps g e2.symm; omega
  refine ⟨_, ⟨?_, ?_, ?_, (h.cells.app (c := d) hx).keep (hTT _ (by decide) (by decide)) (hTT _ (by decide) (by decide)), ownsRow_keep h.vars (hTT _ (by decide) (by decide)), ?_, h.hB⟩, fun T h1 h2 h3 => hTT T h2 h1, ?_⟩
  · have := ownsRow_set (ownsRow_keep h.own (hT _ (by decide))) (init.length * 4 + 2) sv' (by omega)
    rwa [set_end2 _ _ _ _ _ _ _ h.ini.len] at this
  · exact h.ini.stays (hTT _ (by decide) (by decide)) (hTT _ (by decide) (by decide)) hlow (fun g cur _ e => hTT tText (by decide) (by decide) g cur e)
  · show World.ownsRow _ H tStep 4 sv' (y.steps ++ [x]).length _
    rw [List.length_append]
    exact ownsRow_keep hown (hS _ (by decide))
  · rw [World.size_setCell]; exact Nat.le_trans h.hH hg.size
  · exact Below.setCell ((Below.refl B w).grown hg (Nat.le_trans h.hB h.hH) (fun k hk => Nat.le_trans h.hB (own_le h.steps k hk))) hBg _
theorem pushB_last (init : List StageG) (y : StageG) (vs : List (List UInt8)) (x : StepG) : pushB (init ++ [y]) vs x = init ++ [⟨y.name, y.base, y.steps ++ [x], y.vars ++ vs⟩] := by
  simp [pushB]
theorem lastVars_last (init : List StageG) (y : StageG) : lastVars (init ++ [y]) = y.vars := by simp [lastVars]
end Go.Proofs.YtflggoddfjmljaaGreatDoor
namespace Go.Proofs.YtflggoddfjmljaaGreatDoor
open Go.RowKit

/-- stages within bounds -/
def StB (n : Nat) (st : List StageG) : Prop := ∀ x ∈ st, x.vars.length ≤ n ∧ x.steps.length ≤ n
theorem StB.mono {n m : Nat} {st : List StageG} (h : StB n st) (hm : n ≤ m) : StB m st := fun x hx => ⟨Nat.le_trans (h x hx).1 hm, Nat.le_trans (h x hx).2 hm⟩
theorem boundsB_le {op : List UInt8} {a b : Nat} (h : boundsB op = some (a, b)) : 1 ≤ a ∧ b ≤ 3 ∧ (op = wCOPY → a = 2) := by
  unfold boundsB at h
  split at h
  · rename_i e; simp at h; obtain ⟨rfl, rfl⟩ := h; exact ⟨by omega, by omega, fun e2 => by rw [e] at e2; cases e2⟩
  · split at h
    · simp at h; obtain ⟨rfl, rfl⟩ := h; exact ⟨by omega, by omega, fun _ => rfl⟩
    · rename_i hne
      split at h
      · simp at h; obtain ⟨rfl, rfl⟩ := h; exact ⟨by omega, by omega, fun e => absurd e hne⟩
      · split at h
        · simp at h; obtain ⟨rfl, rfl⟩ := h; exact ⟨by omega, by omega, fun e => absurd e hne⟩
        · split at h
          · simp at h; obtain ⟨rfl, rfl⟩ := h; exact ⟨by omega, by omega, fun e => absurd e hne⟩
          · split at h
            · simp at h; obtain ⟨rfl, rfl⟩ := h; exact ⟨by omega, by omega, fun e => absurd e hne⟩
            · split at h
              · simp at h; obtain ⟨rfl, rfl⟩ := h; exact ⟨by omega, by omega, fun e => absurd e hne⟩
              · split at h
                · simp at h; obtain ⟨rfl, rfl⟩ := h; exact ⟨by omega, by omega, fun e => absurd e hne⟩
                · cases h
theorem fromB_ok {st st' : List StageG} {ws : List WordG} {n : Nat} (h : fromB st ws = .ok st') (hb : StB n st) (h5 : st.length ≤ 5) : StB n st' ∧ st' ≠ [] ∧ st'.length ≤ 5 := by
  unfold fromB at h
  split at h
  · cases h
  · split at h
    · cases h
    · split at h
      · cases h
      · split at h
        · cases h
        · split at h
          · cases h
          · rename_i hne5
            cases h
            refine ⟨?_, by simp, by simp; omega⟩
            intro x hx
            rcases List.mem_append.1 hx with hx | hx
            · exact hb x hx
            · simp only [List.mem_singleton] at hx
              subst hx
              refine ⟨?_, by simp⟩
              rcases calledB_cases st (nth ws 1).text with hk | ⟨k, hkl, hk⟩
              · simp only [hk]; rw [varsOf_neg (by omega)]; simp
              · simp only [hk]; rw [varsOf_at hkl]; exact (hb _ (List.getElem_mem hkl)).1
theorem stepB_ok {st st' : List StageG} {op : List UInt8} {ws : List WordG} {n : Nat} (h : stepB st op ws = .ok st') (hb : StB n st) (h5 : st.length ≤ 5) (hne : st ≠ []) : StB (n + 1) st' ∧ st' ≠ [] ∧ st'.length ≤ 5 := by
  unfold stepB at h
  split at h
  · cases h
  · split at h
    · cases h
    · cases h
      obtain ⟨init, y, rfl⟩ : ∃ init y, st = init ++ [y] := ⟨st.dropLast, st.getLast hne, (List.dropLast_concat_getLast hne).symm⟩
      rw [pushB_last]
      refine ⟨?_, by simp, by simpa using h5⟩
      intro x hx
      rcases List.mem_append.1 hx with hx | hx
      · have := hb x (List.mem_append.2 (.inl hx)); omega
      · simp only [List.mem_singleton] at hx
        subst hx
        have := hb y (by simp)
        refine ⟨?_, by simp; omega⟩
        split <;> simp <;> omega
theorem byteB_iff (c : UInt8) : byteB c = true ↔ (c.toNat : Int) = 10 ∨ (32 ≤ (c.toNat : Int) ∧ (c.toNat : Int) ≤ 126) := by
  simp only [byteB, Bool.or_eq_true, Bool.and_eq_true, decide_eq_true_eq, beq_iff_eq, UInt8.le_iff_toNat_le, ← UInt8.toNat_inj]; simp; omega
theorem nameB_err {ws : List WordG} {f : Flt} (h : nameB ws = .error f) : f.1 = 5 := by
  unfold nameB at h
  split at h
  · split at h
    · cases h; rfl
    · split at h
      · cases h; rfl
      · split at h
        · cases h; rfl
        · cases h
  · cases h
theorem fromB_err {st : List StageG} {ws : List WordG} {f p : Nat} (h : fromB st ws = .error (f, p)) : f = 5 ∨ f = 6 ∨ f = 10 := by
  unfold fromB at h
  split at h
  · rename_i f' hf
    cases h
    exact .inl (nameB_err hf)
  · split at h
    · cases h; exact .inl rfl
    · split at h
      · cases h; exact .inr (.inl rfl)
      · split at h
        · cases h; exact .inr (.inl rfl)
        · split at h
          · cases h; exact .inr (.inr rfl)
          · cases h
theorem stepB_err {st : List StageG} {op : List UInt8} {ws : List WordG} {f p : Nat} (h : stepB st op ws = .error (f, p)) : f = 5 ∨ f = 6 ∨ f = 7 := by
  unfold stepB at h
  split at h
  · rename_i f' he
    cases h
    unfold looksB at he
    split at he
    · unfold takenB at he
      repeat' split at he
      all_goals first
        | (cases he; exact .inl rfl)
        | (cases he; exact .inr (.inl rfl))
        | (cases he; done)
    · split at he
      · split at he <;> cases he; exact .inl rfl
      · split at he
        · split at he <;> cases he; exact .inl rfl
        · cases he
  · split at h
    · cases h; exact .inr (.inr rfl)
    · cases h
theorem parseB_bad {s : List UInt8} {k : Nat} (h : s.length ≤ 1500) (hk : s.findIdx? (fun c => !byteB c) = some k) : parseB s = .error (5, k) := by unfold parseB; rw [if_neg (by omega), hk]
theorem parseB_good {s : List UInt8} (h : s.length ≤ 1500) (hk : s.findIdx? (fun c => !byteB c) = none) : parseB s = fileB s 0 [] 0 := by unfold parseB; rw [if_neg (by omega), hk]
theorem nth_cons (x : WordG) (r : List WordG) : nth (x :: r) 0 = x := rfl
end Go.Proofs.YtflggoddfjmljaaGreatDoor
namespace Go.Proofs.YtflggoddfjmljaaGreatDoor

/-- does a stage stand on another one, or take from it -/
def wantsB (x : StageG) (k : Int) : Bool := x.steps.any (fun y => y.stage == k) || x.base == k
/-- the stages that are needed: the last one, and what a needed one wants -/
inductive Reach (st : List StageG) : Nat → Prop
  | last : st ≠ [] → Reach st (st.length - 1)
  | step {i k : Nat} (hi : i < st.length) : Reach st i → k < i → wantsB st[i] k = true → Reach st k
theorem Reach.lt {st : List StageG} {i : Nat} (h : Reach st i) : i < st.length := by
  induction h with
  | last hne => cases st with
    | nil => exact absurd rfl hne
    | cons x r => simp
  | step hi _ hk _ _ => omega
open Classical in
/-- their numbers, rising -/
noncomputable def needL (st : List StageG) : List Nat := (List.range st.length).filter (fun i => decide (Reach st i))

/-- marks of stages, under way: the last is marked, and what is marked is needed -/
structure Marks (st : List StageG) (b : List Bool) : Prop where
  len : b.length = st.length
  last : b[st.length - 1]? = some true
  sound : ∀ i : Nat, b[i]? = some true → Reach st i
theorem Marks.set {st : List StageG} {b : List Bool} (h : Marks st b) {i k : Nat} (hi : i < st.length) (hb : b[i]? = some true) (hk : k < i) (hw : wantsB st[i] k = true) : Marks st (b.set k true) := by
  refine ⟨by simpa using h.len, ?_, ?_⟩
  · rw [List.getElem?_set]
    have := h.last
    have hl := h.len
    split
    · rename_i e; subst e
      simp; omega
    · exact this
  · intro j hj
    rw [List.getElem?_set] at hj
    split at hj
    · rename_i e; subst e
      exact .step hi (h.sound i hb) hk hw
    · exact h.sound j hj
/-- how many are not marked -/
def openB (b : List Bool) : Nat := (b.filter (fun x => !x)).length
theorem openB_set {b : List Bool} {k : Nat} (hk : k < b.length) (h : b[k] = false) : openB (b.set k true) + 1 = openB b := by
  induction b generalizing k with
  | nil => simp at hk
  | cons x r ih =>
    cases k with
    | zero => simp at h; subst h; simp [openB]
    | succ k =>
      have := ih (by simpa using hk) (by simpa using h)
      simp only [List.set_cons_succ, openB, List.filter_cons] at this ⊢
      cases x <;> simp at this ⊢ <;> omega
/-- nothing more to mark: the marks are the needed ones -/
def ClosedB (st : List StageG) (b : List Bool) : Prop := ∀ (i k : Nat) (hi : i < st.length), k < i → b[i]? = some true → wantsB st[i] k = true → b[k]? = some true
theorem Marks.all {st : List StageG} {b : List Bool} (h : Marks st b) (hc : ClosedB st b) (i : Nat) : b[i]? = some true ↔ Reach st i := by
  refine ⟨h.sound i, fun hr => ?_⟩
  induction hr with
  | last hne => exact h.last
  | step hi _ hk hw ih => exact hc _ _ hi hk ih hw
/-- the numbers up to k of what is marked -/
def upto (b : List Bool) (k : Nat) : List Nat := (List.range k).filter (fun i => b[i]? == some true)
theorem upto_succ (b : List Bool) (k : Nat) : upto b (k + 1) = if b[k]? = some true then upto b k ++ [k] else upto b k := by
  unfold upto
  rw [List.range_succ, List.filter_append]
  split <;> simp_all
theorem upto_all {st : List StageG} {b : List Bool} (h : Marks st b) (hc : ClosedB st b) : upto b st.length = needL st := by
  unfold upto needL
  apply List.filter_congr
  intro i _
  rw [Bool.eq_iff_iff]
  simpa using h.all hc i
end Go.Proofs.YtflggoddfjmljaaGreatDoor
namespace Go.Proofs.YtflggoddfjmljaaGreatDoor
open Go.RowKit

/-- stages stand only on elder ones, and take only from elder ones -/
def WfS (st : List StageG) : Prop := ∀ (i : Nat) (h : i < st.length), st[i].base < (i : Int) ∧ ∀ x ∈ st[i].steps, x.stage < (i : Int)
/-- what a file that was parsed is -/
structure FileOk (st : List StageG) : Prop where
  wf : WfS st
  ne : st ≠ []
  h5 : st.length ≤ 5
  bd : StB 24 st
end Go.Proofs.YtflggoddfjmljaaGreatDoor
namespace Go.Proofs.YtflggoddfjmljaaGreatDoor
open Go.RowKit

/-- from stage k on, all that a marked one wants is marked -/
def ClosedFrom (st : List StageG) (b : List Bool) (k : Nat) : Prop := ∀ (i k' : Nat) (hi : i < st.length), k ≤ i → k' < i → b[i]? = some true → wantsB st[i] k' = true → b[k']? = some true
theorem ClosedFrom.all {st : List StageG} {b : List Bool} (h : ClosedFrom st b 0) : ClosedB st b := fun i k hi hk hb hw => h i k hi (Nat.zero_le _) hk hb hw
/-- what is marked from stage k on, falling -/
def downs (b : List Bool) (n k : Nat) : List Nat := ((List.range n).filter (fun i => b[i]? == some true && decide (k ≤ i))).reverse
theorem downs_top (b : List Bool) (n : Nat) : downs b n n = [] := by
  unfold downs
  rw [List.reverse_eq_nil_iff, List.filter_eq_nil_iff]
  intro i hi
  have := List.mem_range.1 hi
  simp; omega
theorem downs_zero (b : List Bool) (n : Nat) : downs b n 0 = (upto b n).reverse := by
  unfold downs upto
  congr 1
  apply List.filter_congr
  intro i _
  simp
theorem filter_split (p : Nat → Bool) (n k : Nat) (h : k < n) : (List.range n).filter (fun i => p i && decide (k ≤ i)) = (if p k = true then [k] else []) ++ (List.range n).filter (fun i => p i && decide (k + 1 ≤ i)) := by
  induction n with
  | zero => omega
  | succ n ih =>
    rw [List.range_succ, List.filter_append, List.filter_append]
    rcases Nat.lt_or_ge k n with hk | hk
    · rw [ih hk, List.append_assoc]
      congr 2
      simp [List.filter_cons, show k ≤ n by omega, show k + 1 ≤ n by omega]
    · obtain rfl : k = n := by omega
      have e1 : (List.range k).filter (fun i => p i && decide (k ≤ i)) = [] := by
        rw [List.filter_eq_nil_iff]; intro i hi; have := List.mem_range.1 hi; simp; omega
      have e2 : (List.range k).filter (fun i => p i && decide (k + 1 ≤ i)) = [] := by
        rw [List.filter_eq_nil_iff]; intro i hi; have := List.mem_range.1 hi; simp; omega
      rw [e1, e2]
      simp [List.filter_cons]
theorem downs_step (b : List Bool) (n k : Nat) (h : k < n) : downs b n k = if b[k]? = some true then downs b n (k + 1) ++ [k] else downs b n (k + 1) := by
  unfold downs
  rw [filter_split (fun i => b[i]? == some true) n k h]
  by_cases hb : b[k]? = some true <;> simp [hb]
theorem downs_len (b : List Bool) (n k : Nat) : (downs b n k).length ≤ n := by
  unfold downs
  rw [List.length_reverse]
  have := List.length_filter_le (fun i => b[i]? == some true && decide (k ≤ i)) (List.range n)
  simpa using this
theorem downs_same {b b' : List Bool} {n k : Nat} (h : ∀ i, k ≤ i → b'[i]? = b[i]?) : downs b' n k = downs b n k := by
  unfold downs
  congr 1
  apply List.filter_congr
  intro i _
  by_cases hi : k ≤ i
  · rw [h i hi]
  · simp [hi]

/-- in stage i's round: marks behind the base and j steps -/
structure Mid (st : List StageG) (b0 b : List Bool) (i j : Nat) (hi : i < st.length) : Prop where
  above : ∀ k, i ≤ k → b[k]? = b0[k]?
  more : ∀ k : Nat, b0[k]? = some true → b[k]? = some true
  base : ∀ k : Nat, st[i].base = k → b[k]? = some true
  steps : ∀ (q k : Nat) (hq : q < st[i].steps.length), q < j → st[i].steps[q].stage = k → b[k]? = some true
theorem Mid.set {st : List StageG} {b0 b : List Bool} {i j : Nat} {hi : i < st.length} (h : Mid st b0 b i j hi) (k : Nat) (hk : k < i) (hl : b.length = st.length) (hj : ∀ (hq : j < st[i].steps.length), st[i].steps[j].stage = (k : Int)) : Mid st b0 (b.set k true) i (j + 1) hi := by
  have on : ∀ m : Nat, b[m]? = some true → (b.set k true)[m]? = some true := fun m e => by
    rw [List.getElem?_set]; split
    · simp; omega
    · exact e
  refine ⟨fun m hm => ?_, fun m e => on m (h.more m e), fun m e => on m (h.base m e), fun q m hq hlt e => ?_⟩
  · rw [List.getElem?_set_ne (by omega)]; exact h.above m hm
  · rcases Nat.lt_or_ge q j with h' | h'
    · exact on m (h.steps q m hq h' e)
    · obtain rfl : q = j := by omega
      have := hj hq
      have e2 : k = m := by omega
      subst e2
      exact List.getElem?_set_self (by omega)
theorem Mid.skip {st : List StageG} {b0 b : List Bool} {i j : Nat} {hi : i < st.length} (h : Mid st b0 b i j hi) (hj : ∀ (hq : j < st[i].steps.length), st[i].steps[j].stage < 0) : Mid st b0 b i (j + 1) hi := by
  refine ⟨h.above, h.more, h.base, fun q m hq hlt e => ?_⟩
  rcases Nat.lt_or_ge q j with h' | h'
  · exact h.steps q m hq h' e
  · obtain rfl : q = j := by omega
    have := hj hq
    omega
theorem Mid.start {st : List StageG} {b0 : List Bool} {i : Nat} (hi : i < st.length) (hb : st[i].base < 0) : Mid st b0 b0 i 0 hi :=
  ⟨fun _ _ => rfl, fun _ e => e, fun k e => by omega, fun q k _ h => by omega⟩
theorem Mid.start1 {st : List StageG} {b0 : List Bool} {i : Nat} (hi : i < st.length) (k : Nat) (hk : k < i) (hl : b0.length = st.length) (hb : st[i].base = (k : Int)) : Mid st b0 (b0.set k true) i 0 hi := by
  refine ⟨fun m hm => List.getElem?_set_ne (by omega), fun m e => ?_, fun m e => ?_, fun q k _ h => by omega⟩
  · rw [List.getElem?_set]; split
    · simp; omega
    · exact e
  · have e2 : k = m := by omega
    subst e2
    exact List.getElem?_set_self (by omega)
theorem Mid.closed {st : List StageG} {b0 b : List Bool} {i : Nat} {hi : i < st.length} (h : Mid st b0 b i st[i].steps.length hi) (hc : ClosedFrom st b0 (i + 1)) : ClosedFrom st b i := by
  intro i' k' hi' hle hlt hb hw
  rcases Nat.lt_or_ge i i' with h' | h'
  · rw [h.above i' (by omega)] at hb
    exact h.more k' (hc i' k' hi' h' hlt hb hw)
  · obtain rfl : i' = i := by omega
    unfold wantsB at hw
    rw [Bool.or_eq_true, List.any_eq_true] at hw
    rcases hw with ⟨y, hy, e⟩ | e
    · obtain ⟨q, hq, rfl⟩ := List.getElem_of_mem hy
      exact h.steps q k' hq hq (by simpa using e)
    · exact h.base k' (by simpa using e)
theorem ClosedFrom.pass {st : List StageG} {b : List Bool} {i : Nat} (h : ClosedFrom st b (i + 1)) (hb : b[i]? ≠ some true) : ClosedFrom st b i := by
  intro i' k' hi' hle hlt hb' hw
  rcases Nat.lt_or_ge i i' with h' | h'
  · exact h i' k' hi' h' hlt hb' hw
  · obtain rfl : i' = i := by omega
    exact absurd hb' hb
theorem ClosedFrom.top (st : List StageG) (b : List Bool) : ClosedFrom st b st.length := fun i _ hi hle => by omega
theorem downs_all {st : List StageG} {b : List Bool} (h : Marks st b) (hc : ClosedFrom st b 0) : (downs b st.length 0).reverse = needL st := by
  rw [downs_zero, List.reverse_reverse, upto_all h hc.all]
end Go.Proofs.YtflggoddfjmljaaGreatDoor
namespace Go.Proofs.YtflggoddfjmljaaGreatDoor

/-- FROM scratch AS a · FROM scratch -/
def knownT : List UInt8 := [70, 82, 79, 77, 32, 115, 99, 114, 97, 116, 99, 104, 32, 65, 83, 32, 97, 10, 70, 82, 79, 77, 32, 115, 99, 114, 97, 116, 99, 104, 10]
def knownS : List StageG := [⟨[97], -1, [], []⟩, ⟨[], -1, [], []⟩]
theorem known_parse : parseB knownT = .ok knownS := by kernel_rfl
theorem known_need : needL knownS = [1] := by
  have hm : Marks knownS [false, true] := ⟨rfl, rfl, fun i hi => by
    match i, hi with
    | 1, _ => exact Reach.last (st := knownS) (by decide)
    | (k + 2), hi => simp at hi⟩
  have hc : ClosedB knownS [false, true] := fun i k hi hk hb hw => by
    have h2 : i < 2 := hi
    obtain ⟨rfl, rfl⟩ : i = 1 ∧ k = 0 := by omega
    simp [knownS, wantsB] at hw
  rw [← upto_all hm hc]; decide
end Go.Proofs.YtflggoddfjmljaaGreatDoor
namespace Go.Proofs.YtflggoddfjmljaaGreatDoor
open Go.RowKit

/-- a step: at most three words, good ones; a known instruction -/
def StepOk (y : StepG) : Prop := y.words.length ≤ 3 ∧ GoodW y.words ∧ boundsB y.op ≠ none
def StageOk (x : StageG) : Prop := x.name.length ≤ 10 ∧ ∀ y ∈ x.steps, StepOk y
def FileT (st : List StageG) : Prop := ∀ x ∈ st, StageOk x
end Go.Proofs.YtflggoddfjmljaaGreatDoor
namespace Go.Proofs.YtflggoddfjmljaaGreatDoor
open Go.RowKit

/-- a byte that stands as it is -/
def plainC (c : UInt8) : Bool := smallC c || letterC c || digitC c || c == 46 || c == 47 || c == 95 || c == 61 || c == 58 || c == 45
theorem plainC_iff (c : UInt8) : plainC c = true ↔ (97 ≤ (c.toNat : Int) ∧ (c.toNat : Int) ≤ 122) ∨ (65 ≤ (c.toNat : Int) ∧ (c.toNat : Int) ≤ 90) ∨ (48 ≤ (c.toNat : Int) ∧ (c.toNat : Int) ≤ 57) ∨ (c.toNat : Int) = 46 ∨ (c.toNat : Int) = 47 ∨ (c.toNat : Int) = 95 ∨ (c.toNat : Int) = 61 ∨ (c.toNat : Int) = 58 ∨ (c.toNat : Int) = 45 := by
  simp only [plainC, Bool.or_eq_true, smallC_iff, letterC_iff, digitC_iff, beq_iff_eq, ← UInt8.toNat_inj]
  simp
  omega
def shownB (c : UInt8) : List UInt8 := if plainC c then [c] else [92, c]
theorem shownB_len (c : UInt8) : 0 < (shownB c).length ∧ (shownB c).length ≤ 2 := by unfold shownB; split <;> simp
/-- a text's bytes, shown -/
def showsB (s : List UInt8) : List UInt8 := s.flatMap shownB
def atomT : Atm → List UInt8
  | .ch c => shownB c
  | .var x _ => [36, 123] ++ x ++ [125]
def formA (l : List Atm) : List UInt8 := l.flatMap atomT
/-- what is empty stands as two quotes -/
def quoteE (s : List UInt8) : List UInt8 := if s = [] then [34, 34] else s
def formB (w : WordG) : List UInt8 := quoteE (formA w.l)
def titleB (st : List StageG) (k : Int) : List UInt8 := if k < 0 then wSCRATCH else (match st[k.toNat]? with | some x => x.name | none => [])
def wordsT (ws : List WordG) : List UInt8 := ws.flatMap (fun w => 32 :: formB w)
def wHFROM : List UInt8 := [32, 45, 45, 102, 114, 111, 109, 61]
def wFROMS : List UInt8 := [70, 82, 79, 77, 32]
def wSAS : List UInt8 := [32, 65, 83, 32]
def stepHeadT (st : List StageG) (x : StepG) : List UInt8 := x.op ++ (if 0 ≤ x.stage then wHFROM ++ titleB st x.stage else [])
def stepT (st : List StageG) (x : StepG) : List UInt8 := stepHeadT st x ++ wordsT x.words ++ [10]
def stageHeadT (st : List StageG) (x : StageG) : List UInt8 := wFROMS ++ titleB st x.base ++ (if x.name = [] then [] else wSAS ++ x.name) ++ [10]
def stageT (st : List StageG) (x : StageG) : List UInt8 := stageHeadT st x ++ x.steps.flatMap (stepT st)
def textB (st : List StageG) : List UInt8 := st.flatMap (stageT st)

/-! ### how long -/
theorem flatMap_len {α : Type} (f : α → List UInt8) (l : List α) (n : Nat) (h : ∀ x ∈ l, (f x).length ≤ n) : (l.flatMap f).length ≤ l.length * n := by
  induction l with
  | nil => simp
  | cons x r ih =>
    have h1 := h x List.mem_cons_self
    have h2 := ih (fun y hy => h y (List.mem_cons_of_mem _ hy))
    simp only [List.flatMap_cons, List.length_append, List.length_cons, Nat.succ_mul]
    omega
theorem flatMap_take {α : Type} (f : α → List UInt8) (l : List α) (k : Nat) (h : k < l.length) : (l.take (k + 1)).flatMap f = (l.take k).flatMap f ++ f l[k] := by
  rw [List.take_succ_eq_append_getElem h, List.flatMap_append]; simp
theorem flatMap_take_len {α : Type} (f : α → List UInt8) (l : List α) (k n : Nat) (h : ∀ x ∈ l, (f x).length ≤ n) : ((l.take k).flatMap f).length ≤ l.length * n := by
  have := flatMap_len f (l.take k) n (fun x hx => h x (List.mem_of_mem_take hx))
  have h2 : (l.take k).length * n ≤ l.length * n := Nat.mul_le_mul_right _ (by rw [List.length_take]; omega)
  omega
theorem atomT_len {l : List Atm} (h : GoodA l) : ∀ x ∈ l, (atomT x).length ≤ 13 := by
  intro x hx
  cases x with
  | ch c => have := shownB_len c; simp only [atomT]; omega
  | var n p => have := (h n p hx).2; simp [atomT]; omega
theorem quoteE_len (s : List UInt8) : (quoteE s).length ≤ s.length + 2 := by unfold quoteE; split <;> simp
theorem formB_len {ws : List WordG} (h : GoodW ws) : ∀ w ∈ ws, (formA w.l).length ≤ 26000 ∧ (formB w).length ≤ 26002 := by
  intro w hw
  obtain ⟨h1, h2⟩ := h w hw
  have h3 : (formA w.l).length ≤ w.l.length * 13 := flatMap_len atomT w.l 13 (atomT_len h1)
  have := quoteE_len (formA w.l)
  unfold formB
  omega
theorem titleB_len {st : List StageG} (h : FileT st) (k : Int) : (titleB st k).length ≤ 10 := by
  unfold titleB
  split
  · decide
  · split
    · rename_i x hx
      exact (h x (List.mem_of_getElem? hx)).1
    · simp
theorem boundsB_len {op : List UInt8} (h : boundsB op ≠ none) : op.length ≤ 7 := by
  unfold boundsB at h
  repeat' split at h
  all_goals first
    | (rename_i e; rw [e]; decide)
    | exact absurd rfl h
theorem wordsT_len {y : StepG} (h : StepOk y) : ∀ k, (wordsT (y.words.take k)).length ≤ 80000 := by
  intro k
  have := flatMap_take_len (fun w : WordG => 32 :: formB w) y.words k 26003 (fun w hw => by have := (formB_len h.2.1 w hw).2; simp; omega)
  have h1 := h.1
  have h2 : y.words.length * 26003 ≤ 3 * 26003 := Nat.mul_le_mul_right _ h1
  unfold wordsT
  omega
theorem stepHeadT_len {st : List StageG} {y : StepG} (h : StepOk y) (ht : FileT st) : (stepHeadT st y).length ≤ 30 := by
  have h1 := boundsB_len h.2.2
  have h2 := titleB_len ht y.stage
  unfold stepHeadT
  split
  · simp only [List.length_append, wHFROM, List.length_cons, List.length_nil]; omega
  · simp only [List.length_append, List.length_nil]; omega
theorem stepT_len {st : List StageG} {y : StepG} (h : StepOk y) (ht : FileT st) : (stepT st y).length ≤ 80031 := by
  have h1 := stepHeadT_len h ht
  have h2 := wordsT_len h y.words.length
  rw [List.take_length] at h2
  unfold stepT
  simp only [List.length_append, List.length_cons, List.length_nil]; omega
theorem stageHeadT_len {st : List StageG} {x : StageG} (h : StageOk x) (ht : FileT st) : (stageHeadT st x).length ≤ 30 := by
  have h1 := h.1
  have h2 := titleB_len ht x.base
  unfold stageHeadT
  split
  · simp only [List.length_append, wFROMS, List.length_cons, List.length_nil]; omega
  · simp only [List.length_append, wFROMS, wSAS, List.length_cons, List.length_nil]; omega
theorem stepsT_len {st : List StageG} {x : StageG} (h : StageOk x) (ht : FileT st) (h24 : x.steps.length ≤ 24) (k : Nat) : ((x.steps.take k).flatMap (stepT st)).length ≤ 1920744 := by
  have := flatMap_take_len (stepT st) x.steps k 80031 (fun y hy => stepT_len (h.2 y hy) ht)
  have h2 : x.steps.length * 80031 ≤ 24 * 80031 := Nat.mul_le_mul_right _ h24
  omega
theorem stageT_len {st : List StageG} {x : StageG} (h : StageOk x) (ht : FileT st) (h24 : x.steps.length ≤ 24) : (stageT st x).length ≤ 1920774 := by
  have h1 := stageHeadT_len h ht
  have h2 := stepsT_len h ht h24 x.steps.length
  rw [List.take_length] at h2
  unfold stageT
  simp only [List.length_append]; omega
theorem textB_len {st : List StageG} (ht : FileT st) (hb : StB 24 st) (h5 : st.length ≤ 5) (k : Nat) : ((st.take k).flatMap (stageT st)).length ≤ 9603870 := by
  have := flatMap_take_len (stageT st) st k 1920774 (fun x hx => stageT_len (ht x hx) ht (hb x hx).2)
  have h2 : st.length * 1920774 ≤ 5 * 1920774 := Nat.mul_le_mul_right _ h5
  omega

end Go.Proofs.YtflggoddfjmljaaGreatDoor
namespace Go.Proofs.YtflggoddfjmljaaGreatDoor
open Go.RowKit

set_option maxRecDepth 100000 in
set_option maxHeartbeats 4000000 in
theorem shownR_any (c : UInt8) (w : World) :
    Calls Tryz.prog 30 #[.int .u8 c.toNat] w fun e w' => e = .returned (.string (S (shownB c))) ∧ Below w.heap.size w w' := by
  have hcv : (convert 73 9 (.slice (some ⟨w.heap.size, 0, none⟩) 1 1)).run Tryz.prog (w.alloc (.cells #[.int .u8 c.toNat] 5)) = .ok (.string (S [c])) (w.alloc (.cells #[.int .u8 c.toNat] 5)) :=
    run_convert_bytes_back (P := Tryz.prog) (w.alloc (.cells #[.int .u8 c.toNat] 5)) 73 9 5 ⟨w.heap.size, 0, none⟩ 1 [c] Tryz.underlying73 Tryz.underlying5 Tryz.underlying9 (fun j hj => by
      obtain rfl : j = 0 := by simpa using hj
      exact cell_new1 w (.int .u8 c.toNat) 5 0 _ rfl)
  have hbA : Below w.heap.size w (w.alloc (.cells #[.int .u8 c.toNat] 5)) := (Below.refl _ _).alloc (Nat.le_refl _) _
  have hi := plainC_iff c
  have hb := u8_lt c
  cases hc : plainC c
  · have Y := Lib.hid (show shownB c = [92, c] by unfold shownB; rw [hc]; rfl)
    have hn : ¬ ((97 ≤ (c.toNat : Int) ∧ (c.toNat : Int) ≤ 122) ∨ (65 ≤ (c.toNat : Int) ∧ (c.toNat : Int) ≤ 90) ∨ (48 ≤ (c.toNat : Int) ∧ (c.toNat : Int) ≤ 57) ∨ (c.toNat : Int) = 46 ∨ (c.toNat : Int) = 47 ∨ (c.toNat : Int) = 95 ∨ (c.toNat : Int) = 61 ∨ (c.toNat : Int) = 58 ∨ (c.toNat : Int) = 45) := fun h => by
      rw [hi.2 h] at hc; cases hc
    clear hi hc
    have n4 : ((c.toNat : Int) == 46) = false := by rw [beq_eq_false_iff_ne]; omega
    have n5 : ((c.toNat : Int) == 47) = false := by rw [beq_eq_false_iff_ne]; omega
    have n6 : ((c.toNat : Int) == 95) = false := by rw [beq_eq_false_iff_ne]; omega
    have n7 : ((c.toNat : Int) == 61) = false := by rw [beq_eq_false_iff_ne]; omega
    have n8 : ((c.toNat : Int) == 58) = false := by rw [beq_eq_false_iff_ne]; omega
    have n9 : ((c.toNat : Int) == 45) = false := by rw [beq_eq_false_iff_ne]; omega
    go_enter Tryz.func30, Tryz.ntmps30
    go_wp2
    all_goals first
      | (go_ret; exact ⟨ret_str Y.out.symm, hbA⟩)
      | (exfalso; try simp only [Bool.not_eq_true', Bool.not_eq_false', bne_iff_ne, bne_eq_false_iff_eq, beq_iff_eq, beq_eq_false_iff_ne, decide_eq_true_eq, decide_eq_false_iff_not, ne_eq] at *; omega)
  · have Y := Lib.hid (show shownB c = [c] by unfold shownB; rw [hc]; rfl)
    have hn := hi.1 hc
    clear hi hc
    rcases hn with h | h | h | h | h | h | h | h | h
    all_goals first
      | (have n4 : ((c.toNat : Int) == 46) = false := by (rw [beq_eq_false_iff_ne]; omega)
         have n5 : ((c.toNat : Int) == 47) = false := by (rw [beq_eq_false_iff_ne]; omega)
         have n6 : ((c.toNat : Int) == 95) = false := by (rw [beq_eq_false_iff_ne]; omega)
         have n7 : ((c.toNat : Int) == 61) = false := by (rw [beq_eq_false_iff_ne]; omega)
         have n8 : ((c.toNat : Int) == 58) = false := by (rw [beq_eq_false_iff_ne]; omega)
         have n9 : ((c.toNat : Int) == 45) = false := by (rw [beq_eq_false_iff_ne]; omega)
         go_enter Tryz.func30, Tryz.ntmps30
         go_wp2
         all_goals first
           | (go_ret; exact ⟨ret_str Y.out.symm, hbA⟩)
           | (exfalso; try simp only [Bool.not_eq_true', Bool.not_eq_false', bne_iff_ne, bne_eq_false_iff_eq, beq_iff_eq, beq_eq_false_iff_ne, decide_eq_true_eq, decide_eq_false_iff_not, ne_eq] at *; omega))
      | (rw [h] at hcv hbA ⊢
         clear h
         go_enter Tryz.func30, Tryz.ntmps30
         go_wp2
         go_ret
         exact ⟨ret_str Y.out.symm, hbA⟩)

/-- stages that lie in memory, one of them -/
theorem StagesR.get {B : Nat} {w : World} {st : List StageG} {ao : Option Addr} {c : Nat} (h : StagesR B w st ao c) {k : Nat} (hk : k < st.length) :
    ∃ b o sa sc va vc, ao = some ⟨b, o, none⟩ ∧ b < w.heap.size ∧ w.cell? ⟨b, o + k * 4, none⟩ = some (.string (S st[k].name)) ∧ w.cell? ⟨b, o + k * 4 + 1, none⟩ = some (.int .i64 st[k].base) ∧ w.cell? ⟨b, o + k * 4 + 2, none⟩ = some (.slice sa st[k].steps.length sc) ∧ w.cell? ⟨b, o + k * 4 + 3, none⟩ = some (.slice va st[k].vars.length vc) ∧ (∃ scs, w.ownsRow 0 tStep 4 (.slice sa st[k].steps.length sc) st[k].steps.length scs ∧ StepCells w st[k].steps scs) := by
  obtain ⟨cs, h1, h2⟩ := h.all
  have h1 := RdT.of_own h1
  obtain ⟨sv, vv, g1, g2, g3, g4, g5⟩ := h2.get k hk
  obtain ⟨b, o, rfl, hb, hc⟩ := h1.rd.at (k * 4) (by rw [h2.len]; omega)
  obtain ⟨scs, s1, s2⟩ := g5.steps
  obtain ⟨sa, sc, rfl⟩ := ownsRow_form s1
  obtain ⟨va, vc, rfl⟩ := ownsRow_form g5.vars
  exact ⟨b, o, sa, sc, va, vc, rfl, hb, hc _ _ g1, hc _ _ g2, hc _ _ g3, hc _ _ g4, ⟨scs, ownsRow_base s1 (Nat.zero_le _), s2⟩⟩

theorem titleB_neg {st : List StageG} {k : Int} (h : k < 0) : titleB st k = wSCRATCH := by unfold titleB; rw [if_pos h]
theorem titleB_at {st : List StageG} {k : Nat} (h : k < st.length) : titleB st (k : Int) = st[k].name := by unfold titleB; rw [if_neg (by omega)]; simp [h]
set_option maxRecDepth 100000 in
set_option maxHeartbeats 2000000 in
theorem titleR_any (st : List StageG) (B n c : Nat) (ao : Option Addr) (k : Int) (w : World) (hn : st.length = n) (hst : StagesR B w st ao c) (hk : k < (n : Int)) :
    Calls Tryz.prog 16 #[.slice ao n c, .int .i64 k] w fun e w' => e = .returned (.string (S (titleB st k))) ∧ Below w.heap.size w w' := by
  subst hn
  rcases Int.lt_or_le k 0 with h | h
  · have Y := Lib.hid (titleB_neg (st := st) h)
    go_enter Tryz.func16, Tryz.ntmps16
    go_wp2
    go_ret
    exact ⟨ret_str Y.out.symm, Below.refl _ _⟩
  · obtain ⟨k, rfl⟩ : ∃ m : Nat, k = (m : Int) := ⟨k.toNat, by omega⟩
    have hkl : k < st.length := by omega
    obtain ⟨b, o, sa, sc, va, vc, rfl, hb, m1, m2, m3, m4, _⟩ := hst.get hkl
    have Y := Lib.hid (titleB_at hkl)
    go_enter Tryz.func16, Tryz.ntmps16
    go_wp2
    go_ret
    exact ⟨ret_str Y.out.symm, Below.refl _ _⟩

theorem formA_take {l : List Atm} {k : Nat} (h : k < l.length) : formA (l.take (k + 1)) = formA (l.take k) ++ atomT l[k] := flatMap_take atomT l k h
set_option maxRecDepth 100000 in
set_option maxHeartbeats 4000000 in
theorem formR_any (x : WordG) (ao : Option Addr) (n c p : Nat) (w : World) (hn : x.l.length = n) (hp : x.at_ = p) (hg : GoodA x.l) (hl : x.l.length ≤ 2000)
    (hx : w.ownsRow 0 75 3 (.slice ao n c) n (atms x.l)) :
    Calls Tryz.prog 17 #[.agg #[.slice ao n c, .int .i64 p]] w fun e w' => e = .returned (.string (S (formB x))) ∧ Below w.heap.size w w' := by
  obtain ⟨l, at_⟩ := x
  simp only at hg hl hx hn hp
  subst hn
  subst hp
  have hrd := Lib.hid (show Rd w ao (atms l) by
    obtain ⟨A, cap, e, _, _, h⟩ := Rd.of_own hx
    cases e; exact h)
  have HG := Lib.hid hg
  clear hx hg
  have P := Lib.hid (Blk2.new w (.slice ao l.length c) (.int .i64 at_) 46)
  have hbw : Below w.heap.size w (w.alloc (.cells #[.slice ao l.length c, .int .i64 at_] 46)) := (Below.refl _ _).alloc (Nat.le_refl _) _
  go_enter Tryz.func17, Tryz.ntmps17
  go_wp2
  generalize hW : w.alloc (.cells #[.slice ao l.length c, .int .i64 at_] 46) = w1 at *
  clear hW
  rw [show (ByteArray.mk #[]) = S [] from rfl]
  go_loopw [3, 4] (fun v i wr => ∃ k : Nat, k ≤ l.length ∧ i = .int .i64 k ∧ v = .string (S (formA (l.take k))) ∧ Hid (Blk2 wr w.heap.size (.slice ao l.length c) (.int .i64 at_)) ∧ Below w.heap.size w wr ∧ w.heap.size + 1 ≤ wr.heap.size) (fun _ i _ => l.length - (intOf i).toNat)
  case atStart => exact ⟨0, by omega, by go_num, rfl, P, hbw, by have := P.out.lt; omega⟩
  case round =>
    obtain ⟨k, hk, rfl, rfl, PI, hbel, hszr⟩ := hrel
    clear P
    obtain ⟨c1, c2, c3, c4⟩ := PI.out.facts
    by_cases hlt : k < l.length
    · obtain ⟨bb, o, rfl, hb, hc⟩ := (hrd.out.below hbel).at (k * 3) (by rw [atms_len]; omega)
      obtain ⟨ha1, ha2⟩ := atms_get l k hlt
      have HT := Lib.hid (formA_take hlt)
      have HLn := Lib.hid (show (formA (l.take (k + 1))).length ≤ 26000 by
        have := flatMap_take_len atomT l (k + 1) 13 (atomT_len HG.out)
        unfold formA; omega)
      have hl1 := HLn.out
      have hl0 : (formA (l.take k)).length ≤ 26000 := by
        have := HLn.out; rw [HT.out, List.length_append] at this; omega
      cases hat : l[k] with
      | var y p =>
        obtain ⟨h1, h2, h3⟩ := ha2 y p hat
        have HGy := HG.out y p (by rw [← hat]; exact List.getElem_mem hlt)
        have hne : (y == []) = false := by have := HGy.1; cases y <;> simp_all
        have hyl := HGy.2
        have T := Lib.hid (show formA (l.take (k + 1)) = formA (l.take k) ++ ([36, 123] ++ y ++ [125]) by rw [HT.out, hat]; rfl)
        have m1 : wr.cell? ⟨bb, o + k * 3, none⟩ = some (.int .u8 0) := hc _ _ h1
        have m2 : wr.cell? ⟨bb, o + k * 3 + 1, none⟩ = some (.string (S y)) := hc _ _ h2
        clear ha1 ha2 hat h1 h2 h3 hc HT HGy hl1
        go_wp2
        go_roundw
        case rel => exact ⟨k + 1, by omega, by go_num, str_eq (by rw [T.out]; simp), PI, hbel, hszr⟩
        case measure => simp [intOf]; omega
      | ch y =>
        obtain ⟨h1, h2, h3⟩ := ha1 y hat
        have T := Lib.hid (show formA (l.take (k + 1)) = formA (l.take k) ++ shownB y by rw [HT.out, hat]; rfl)
        have hsl := (shownB_len y).2
        have m1 : wr.cell? ⟨bb, o + k * 3, none⟩ = some (.int .u8 y.toNat) := hc _ _ h1
        have m2 : wr.cell? ⟨bb, o + k * 3 + 1, none⟩ = some (.string (S [])) := hc _ _ h2
        clear ha1 ha2 hat h1 h2 h3 hc HT hl1
        go_wp2_with (go_at_call 30; refine (shownR_any y _).mono ?_; rintro e2 w2 ⟨rfl, hb2⟩)
        go_roundw
        case rel => exact ⟨k + 1, by omega, by go_num, str_eq T.out.symm, Lib.hid (PI.out.after hb2), hbel.trans (hb2.mono hbel.size), by have := hb2.size; omega⟩
        case measure => simp [intOf]; omega
    · obtain rfl : k = l.length := by omega
      have Y := Lib.hid (show formA (l.take l.length) = formA l by rw [List.take_length])
      by_cases he : formA l = []
      · have Z := Lib.hid (show formB ⟨l, at_⟩ = [34, 34] by unfold formB quoteE; rw [if_pos he])
        have Y2 := Lib.hid (Y.out.trans he)
        rw [Y2.out]
        clear he
        go_wp2
        go_ret
        exact ⟨ret_str Z.out.symm, hbel⟩
      · have Z := Lib.hid (show formB ⟨l, at_⟩ = formA l by unfold formB quoteE; rw [if_neg he])
        rw [Y.out]
        have hne : (formA l == []) = false := by simpa using he
        clear he
        go_wp2
        go_ret
        exact ⟨ret_str Z.out.symm, hbel⟩
end Go.Proofs.YtflggoddfjmljaaGreatDoor
