/-
  A row of texts of one's own: searched, widened, narrowed by the library's contracts.
-/
import Derived.Lib.LazyBuf
import Derived.Laws.CopyOwn
import Derived.Test.YtkdplkhnkimhpaaGreatDoorY02
import Derived.Test.YtkdplkhnkimhpaaGreatDoorShelf
import Derived.Test.YtkdplkhnkimhpaaGreatDoorY05
set_option linter.unusedVariables false
set_option linter.unusedSimpArgs false
namespace Go.Proofs.YtkdplkhnkimhpaaGreatDoor
open Go.RowKit

def RowS (w : World) (B : Nat) (v : Value) (l : Names) : Prop :=
  (v = .slice none 0 0 ∧ l = []) ∨ ∃ (g c : Nat) (f : Nat → Value), v = .slice (some ⟨g, 0, none⟩) l.length c ∧ B ≤ g ∧ l.length ≤ c ∧ c ≤ maxLen ∧ 0 < c ∧ w.rowIs g tStr c f ∧ ∀ j, j < l.length → f j = .string (S (l.getD j []))
theorem RowS.nil (w : World) (B : Nat) : RowS w B (.slice none 0 0) [] := .inl ⟨rfl, rfl⟩
theorem RowS.form {w : World} {B : Nat} {v : Value} {l : Names} (h : RowS w B v l) : ∃ a c, v = .slice a l.length c := by
  rcases h with ⟨rfl, rfl⟩ | ⟨g, c, f, rfl, _⟩
  · exact ⟨_, _, rfl⟩
  · exact ⟨_, _, rfl⟩
theorem RowS.lt {w : World} {B : Nat} {v : Value} {l : Names} (h : RowS w B v l) : ∀ g, v.ownBlock = some g → B ≤ g ∧ g < w.heap.size := by
  intro g hg
  rcases h with ⟨rfl, _⟩ | ⟨g', c, f, rfl, h1, _, _, _, h5, _⟩
  · cases hg
  · cases hg; exact ⟨h1, h5.lt⟩
theorem RowS.keep {w w' : World} {B : Nat} {v : Value} {l : Names} (h : RowS w B v l) (hb : ∀ g, v.ownBlock = some g → w'.heap[g]? = w.heap[g]?) : RowS w' B v l := by
  rcases h with ⟨rfl, rfl⟩ | ⟨g, c, f, rfl, h1, h2, h3, h4, h5, h6⟩
  · exact .nil _ _
  · exact .inr ⟨g, c, f, rfl, h1, h2, h3, h4, h5.of_block (hb g rfl), h6⟩
theorem RowS.below {w w' : World} {B : Nat} {v : Value} {l : Names} (h : RowS w B v l) (hb : Below w.heap.size w w') : RowS w' B v l := h.keep fun g hg => hb.block g (h.lt g hg).2
theorem RowS.grown {w w' : World} {B : Nat} {v : Value} {l : Names} {r : Option Nat} (h : RowS w B v l) (hg : w.grownBy w' r) (hne : ∀ g, v.ownBlock = some g → r ≠ some g) : RowS w' B v l :=
  h.keep fun g hv => hg.block g (h.lt g hv).2 (fun e => hne g hv e.symm)
/-- the cell at a place -/
theorem RowS.at {w : World} {B : Nat} {v : Value} {l : Names} (h : RowS w B v l) (k : Nat) (hk : k < l.length) : ∃ g c, v = .slice (some ⟨g, 0, none⟩) l.length c ∧ B ≤ g ∧ g < w.heap.size ∧ w.cell? ⟨g, k, none⟩ = some (.string (S (l.getD k []))) ∧ w.frozen? ⟨g, k, none⟩ = false := by
  rcases h with ⟨rfl, rfl⟩ | ⟨g, c, f, rfl, h1, h2, h3, h4, h5, h6⟩
  · simp at hk
  · exact ⟨g, c, rfl, h1, h5.lt, by rw [h5.cell (by omega), h6 k hk], h5.frozen k⟩
theorem getD_set (l : Names) (k j : Nat) (x : List UInt8) (hk : k < l.length) : (l.set k x).getD j [] = if j = k then x else l.getD j [] := by
  rw [List.getD_eq_getElem?_getD, List.getD_eq_getElem?_getD, List.getElem?_set]
  by_cases h : k = j
  · subst h; simp [hk]
  · rw [if_neg h, if_neg (fun e => h e.symm)]
theorem RowS.set {w : World} {B g c : Nat} {l : Names} (h : RowS w B (.slice (some ⟨g, 0, none⟩) l.length c) l) (k : Nat) (hk : k < l.length) (x : List UInt8) : RowS (w.setCell ⟨g, k, none⟩ (.string (S x))) B (.slice (some ⟨g, 0, none⟩) l.length c) (l.set k x) := by
  rcases h with ⟨h, _⟩ | ⟨g', c', f, hv, h1, h2, h3, h4, h5, h6⟩
  · cases h
  · cases hv
    refine .inr ⟨g, c, _, by rw [List.length_set], h1, by rw [List.length_set]; exact h2, h3, h4, h5.set k _, fun j hj => ?_⟩
    rw [List.length_set] at hj
    rw [getD_set l k j x hk]
    by_cases hjk : j = k
    · rw [if_pos hjk, if_pos hjk]
    · rw [if_neg hjk, if_neg hjk]; exact h6 j hj
theorem rowS_new (w : World) {B : Nat} (hB : B ≤ w.heap.size) (arr : Array Value) (l : Names) (c : Nat) (hsz : arr.size = c) (hle : l.length ≤ c) (hc : c ≤ maxLen) (h0 : 0 < c) (ha : ∀ j, j < l.length → arr[j]? = some (.string (S (l.getD j [])))) :
    RowS (w.alloc (.cells arr tStr)) B (.slice (some ⟨w.heap.size, 0, none⟩) l.length c) l := by
  have hr := World.rowIs_alloc w arr tStr (fun j => (arr[j]?).getD default) (fun i hi => by rw [Array.getElem?_eq_getElem hi]; rfl)
  rw [hsz] at hr
  exact .inr ⟨_, c, _, rfl, hB, hle, hc, h0, hr, fun j hj => by rw [ha j hj]; rfl⟩
theorem strs_at (l : Names) (j : Nat) (h : j < l.length) : (strs l)[j]? = some (.string (S (l.getD j []))) := by
  simp only [strs]
  rw [List.getElem?_map, List.getD_eq_getElem?_getD, List.getElem?_eq_getElem h]; rfl
theorem strs_getc {w : World} {g c : Nat} {f : Nat → Value} {l : Names} (h5 : w.rowIs g tStr c f) (h2 : l.length ≤ c) (h6 : ∀ j, j < l.length → f j = .string (S (l.getD j []))) : ∀ (j : Nat) (u : Value), (strs l)[j]? = some u → w.cell? ⟨g, 0 + j, none⟩ = some u := by
  intro j u hj
  have hlt : j < l.length := by have := (List.getElem?_eq_some_iff.1 hj).1; rw [strs_len] at this; exact this
  rw [strs_at l j hlt] at hj
  rw [Nat.zero_add, h5.cell (by omega), h6 j hlt]; exact hj
theorem strs_one1 (l : Names) : ∀ v ∈ strs l, v.oneCell' = true := by
  intro v hv
  simp only [strs] at hv
  obtain ⟨x, _, rfl⟩ := List.mem_map.1 hv
  rfl
theorem search_any {w : World} {B : Nat} {v : Value} {l : Names} (h : RowS w B v l) (hl : l.length ≤ 1000) (x : List UInt8) :
    Calls Tryz.prog 101 #[v, .string (S x)] w fun e w' => e = .returned (.tuple #[.int .i64 (srchI l x : Nat), .bool (srchB l x)]) ∧ ∃ q, w' = w.drewN q := by
  rcases h with ⟨rfl, rfl⟩ | ⟨g, c, f, rfl, h1, h2, h3, h4, h5, h6⟩
  · refine (Tryz.slices_BinarySearch_string_empty none 0 (S x) w).mono ?_
    rintro e w' ⟨rfl, rfl⟩
    exact ⟨by rw [(srch_nil x).1, (srch_nil x).2]; rfl, 0, rfl⟩
  · refine (Tryz.slices_BinarySearch_string g 0 l.length c (fun t => S (l.getD t [])) (S x) w (by omega) (fun j hj => by rw [Nat.zero_add, h5.cell (by omega), h6 j hj])).mono ?_
    rintro e w' ⟨rfl, hq⟩
    exact ⟨rfl, hq⟩
/-- an element more: what comes of it -/
def Widened (w : World) (B : Nat) (v : Value) (l : Names) (e : Ending) (w' : World) : Prop :=
  ∃ v', e = .returned v' ∧ RowS w' B v' l ∧ w.grownBy w' v.ownBlock ∧ (v'.ownBlock = v.ownBlock ∨ ∃ g, v'.ownBlock = some g ∧ w.heap.size ≤ g)
theorem ins_at (l : Names) (i j : Nat) (x : List UInt8) (hi : i ≤ l.length) : (insL l i x).getD j [] = if j < i then l.getD j [] else if j = i then x else l.getD (j - 1) [] := by
  unfold insL
  rw [List.getD_eq_getElem?_getD, List.getD_eq_getElem?_getD, List.getD_eq_getElem?_getD]
  by_cases h1 : j < i
  · rw [if_pos h1, List.getElem?_append_left (by simp; omega), List.getElem?_take, if_pos h1]
  · rw [if_neg h1, List.getElem?_append_right (by simp; omega)]
    have e : (l.take i).length = i := by simp; omega
    rw [e]
    by_cases h2 : j = i
    · subst h2; simp
    · rw [if_neg h2, show j - i = (j - 1 - i) + 1 by omega, List.getElem?_cons_succ, List.getElem?_drop, show i + (j - 1 - i) = j - 1 by omega]
theorem grown_cells {w : World} {g : Nat} : ∀ (vs : List Value) (o : Nat) (w' : World), w.grownBy w' (some g) → w.grownBy (w'.setCells g o vs) (some g)
  | [], _, _, h => h
  | v :: r, o, w', h => grown_cells r (o + 1) _ ⟨h.os, h.tape, h.output, by have := h.size; simpa [World.setCell] using this, fun i hi hne => (heap_setCell_other w' ⟨g, o, none⟩ i v (fun e => hne (by rw [e]))).trans (h.block i hi hne)⟩
theorem grown_refl (w : World) (r : Option Nat) : w.grownBy w r := ⟨rfl, rfl, rfl, Nat.le_refl _, fun _ _ _ => rfl⟩
theorem grown_any {w w' : World} {r : Option Nat} (h : Below w.heap.size w w') : w.grownBy w' r := ⟨h.os, h.tape, h.output, h.size, fun i hi _ => h.block i hi⟩
theorem grown_drew3 {w w' : World} {r : Option Nat} (h : w.grownBy w' r) : w.grownBy w'.drew r := ⟨h.os, h.tape, h.output, h.size, h.block⟩
theorem grown_cells_new {w : World} {r : Option Nat} {g : Nat} (hg : w.heap.size ≤ g) : ∀ (vs : List Value) (o : Nat) (w' : World), w.grownBy w' r → w.grownBy (w'.setCells g o vs) r
  | [], _, _, h => h
  | v :: rs, o, w', h => grown_cells_new hg rs (o + 1) _ ⟨h.os, h.tape, h.output, by have := h.size; simpa [World.setCell] using this, fun i hi hne => (heap_setCell_other w' ⟨g, o, none⟩ i v (by show i ≠ g; omega)).trans (h.block i hi hne)⟩
theorem zero_size (n : Nat) : (Builtin.zeroCells (Value.string ⟨#[]⟩).cells n).size = n := by rw [size_zeroCells]; simp [Value.cells]
theorem insert_any {w : World} {B : Nat} {v : Value} {l : Names} (h : RowS w B v l) (hl : l.length ≤ 1000) (hB : B ≤ w.heap.size) (i : Nat) (hi : i ≤ l.length) (vb : Nat) (x : List UInt8) (hvb : w.heap[vb]? = some (.cells #[.string (S x)] tStr (0, 0))) (hne : v.ownBlock ≠ some vb) :
    Calls Tryz.prog 105 #[v, .int .i64 (i : Nat), .slice (some ⟨vb, 0, none⟩) 1 1] w (Widened w B v (insL l i x)) := by
  have hvs : ∀ (j : Nat) (u : Value), [Value.string (S x)][j]? = some u → w.cell? ⟨vb, 0 + j, none⟩ = some u := by
    intro j u hj
    rw [Nat.zero_add, cell_of_row _ _ _ _ _ _ hvb]
    simpa using hj
  have h1v : ∀ u ∈ [Value.string (S x)], u.oneCell' = true := by intro u hu; rw [List.mem_singleton.1 hu]; rfl
  have hil := insL_len l i x hi
  by_cases hend : i = l.length
  · subst hend
    -- at the end
    have hnew : ∀ (a : Option Addr) (c : Nat), v = .slice a l.length c → l.length ≤ c → c < l.length + 1 → (a = none → l.length = 0) → (∀ a', a = some a' → ∀ (j : Nat) (u : Value), (strs l)[j]? = some u → w.cell? (a'.add j) = some u) → Calls Tryz.prog 105 #[v, .int .i64 (l.length : Nat), .slice (some ⟨vb, 0, none⟩) 1 1] w (Widened w B v (insL l l.length x)) := by
      intro a c hv hle hroom hnil hcs
      subst hv
      refine (Tryz.slices_Insert_string_end_grow a l.length c vb 0 1 1 (strs l) [.string (S x)] w (by decide) hle hroom (by omega) (strs_len l) rfl hnil hcs hvs h1v).mono ?_
      rintro e w' ⟨rfl, rfl⟩
      have hge := grownCap_ge w (l.length + 1) c tStr
      have hcm := grownCap_le_maxLen w (l.length + 1) c tStr (by unfold maxLen; omega)
      refine ⟨_, rfl, ?_, grown_any ((show Below w.heap.size w w.drew from ⟨rfl, rfl, rfl, Nat.le_refl _, fun _ _ => rfl⟩).alloc (Nat.le_refl _) _), .inr ⟨_, rfl, Nat.le_refl _⟩⟩
      have hr := rowS_new w.drew (B := B) hB ((strs l ++ [Value.string (S x)]).toArray ++ Builtin.zeroCells (Value.string ⟨#[]⟩).cells (grownCap w (l.length + 1) c tStr - (l.length + 1))) (insL l l.length x) (grownCap w (l.length + 1) c tStr)
        (by rw [Array.size_append, zero_size, List.size_toArray, List.length_append, strs_len]; simp; omega) (by rw [hil]; exact hge) hcm (by omega) (fun j hj => by
          rw [hil] at hj
          rw [ins_at _ _ _ _ (Nat.le_refl _), Array.getElem?_append_left (by simp [strs_len]; omega), List.getElem?_toArray]
          by_cases hj2 : j < l.length
          · rw [if_pos hj2, List.getElem?_append_left (by rw [strs_len]; exact hj2), strs_at l j hj2]
          · obtain rfl : j = l.length := by omega
            rw [if_neg (Nat.lt_irrefl _), if_pos rfl, List.getElem?_append_right (by rw [strs_len]; exact Nat.le_refl _), strs_len, Nat.sub_self]; rfl)
      rw [hil] at hr
      exact hr
    rcases h with ⟨rfl, rfl⟩ | ⟨g, c, f, rfl, h1, h2, h3, h4, h5, h6⟩
    · exact hnew none 0 rfl (Nat.le_refl _) (by decide) (fun _ => rfl) (fun a' ha => by cases ha)
    · by_cases hroom : l.length + 1 ≤ c
      · refine (Tryz.slices_Insert_string_end_room g 0 l.length c vb 0 1 1 [.string (S x)] w (by decide) hroom (by have := h3; unfold maxLen at this; omega) rfl (fun j hj => by rw [Nat.zero_add, h5.cell (by omega)]; rfl) (fun j hj => h5.frozen _) hvs h1v).mono ?_
        rintro e w' ⟨rfl, rfl⟩
        refine ⟨_, rfl, .inr ⟨g, c, _, by rw [hil], h1, by rw [hil]; exact hroom, h3, h4, rowIs_setCells _ _ _ _ h5, fun j hj => ?_⟩, grown_cells _ _ _ (grown_refl _ _), .inl rfl⟩
        rw [hil] at hj
        rw [ins_at _ _ _ _ (Nat.le_refl _)]
        by_cases hj2 : j < l.length
        · rw [if_pos hj2, if_neg (by omega), h6 j hj2]
        · obtain rfl : j = l.length := by omega
          rw [if_neg (Nat.lt_irrefl _), if_pos rfl, if_pos (by simp)]; simp
      · exact hnew (some ⟨g, 0, none⟩) c rfl h2 (by omega) (fun e => by cases e) (fun a' ha j u hj => by cases ha; rw [Addr.add_lit]; exact strs_getc h5 h2 h6 j u hj)
  · have hlt : i < l.length := by omega
    rcases h with ⟨rfl, rfl⟩ | ⟨g, c, f, rfl, h1, h2, h3, h4, h5, h6⟩
    · simp at hlt
    · have hcs := strs_getc h5 h2 h6
      have hgne : vb ≠ g := fun e => hne (by rw [e]; rfl)
      have hd : ∀ k, ((strs l).drop i)[k]?.getD default = (if i + k < l.length then .string (S (l.getD (i + k) [])) else default) := by
        intro k
        rw [List.getElem?_drop]
        by_cases hk : i + k < l.length
        · rw [if_pos hk, strs_at l _ hk]; rfl
        · rw [if_neg hk, List.getElem?_eq_none (by rw [strs_len]; omega)]; rfl
      have hdl : ((strs l).drop i).length = l.length - i := by rw [List.length_drop, strs_len]
      by_cases hroom : l.length + 1 ≤ c
      · have h5' := h5
        obtain ⟨cur, hcur, hcsz, _⟩ := h5'
        have hsb : w.shape? g = some (tStr, c) := by unfold World.shape?; rw [hcur]; simp [hcsz]
        have hsa : w.shape? vb = some (tStr, 1) := by unfold World.shape?; rw [hvb]; rfl
        refine (Tryz.slices_Insert_string_shift g 0 l.length c i vb 0 1 1 (strs l) [.string (S x)] w hlt (by decide) hroom (by have := h3; unfold maxLen at this; omega) hgne (strs_len l) rfl hcs (fun j hj => by rw [Nat.zero_add, h5.cell (by omega)]; rfl) (fun j hj => h5.frozen _) hvs (strs_one1 l) h1v tStr tStr 1 c hsa hsb (by omega) (frozen_of_row w vb _ _ _ hvb) (frozen_of_row w vb _ _ _ hvb)).mono ?_
        rintro e w' ⟨rfl, rfl⟩
        have hr := rowIs_setCells [.string (S x)] (0 + i) _ _ (rowIs_setCells ((strs l).drop i) (0 + (i + 1)) w.drew f (show w.drew.rowIs g tStr c f from h5))
        refine ⟨_, rfl, .inr ⟨g, c, _, by rw [hil], h1, by rw [hil]; exact hroom, h3, h4, hr, fun j hj => ?_⟩, grown_cells _ _ _ (grown_cells _ _ _ (grown_drew3 (grown_refl _ _))), .inl rfl⟩
        rw [hil] at hj
        rw [ins_at _ _ _ _ hi, hdl]
        simp only [Nat.zero_add, List.length_singleton]
        by_cases c1 : j < i
        · rw [if_pos c1, if_neg (by omega), if_neg (by omega), h6 j (by omega)]
        · by_cases c2 : j = i
          · subst c2; rw [if_neg c1, if_pos rfl, if_pos (by omega)]; simp
          · rw [if_neg c1, if_neg c2, if_neg (by omega), if_pos (by omega), hd, show i + (j - (i + 1)) = j - 1 by omega, if_pos (by omega)]
      · refine (Tryz.slices_Insert_string_grow g 0 l.length c i vb 0 1 1 (strs l) [.string (S x)] w hlt (by decide) h2 (by omega) (by omega) (strs_len l) rfl hcs hvs (strs_one1 l) h1v).mono ?_
        rintro e w' ⟨rfl, rfl⟩
        have hge := grownCap_ge w (l.length + 1) c tStr
        have hcm := grownCap_le_maxLen w (l.length + 1) c tStr (by unfold maxLen; omega)
        have hasz : (((strs l).take i).toArray ++ Builtin.zeroCells (Value.string ⟨#[]⟩).cells (l.length + 1 - i) ++ Builtin.zeroCells (Value.string ⟨#[]⟩).cells (grownCap w (l.length + 1) c tStr - (l.length + 1))).size = grownCap w (l.length + 1) c tStr := by
          rw [Array.size_append, Array.size_append, zero_size, zero_size, List.size_toArray, List.length_take, strs_len]; omega
        have h0 := World.rowIs_alloc w (((strs l).take i).toArray ++ Builtin.zeroCells (Value.string ⟨#[]⟩).cells (l.length + 1 - i) ++ Builtin.zeroCells (Value.string ⟨#[]⟩).cells (grownCap w (l.length + 1) c tStr - (l.length + 1))) tStr (fun j => ((((strs l).take i).toArray ++ Builtin.zeroCells (Value.string ⟨#[]⟩).cells (l.length + 1 - i) ++ Builtin.zeroCells (Value.string ⟨#[]⟩).cells (grownCap w (l.length + 1) c tStr - (l.length + 1)))[j]?).getD default) (fun j hj => by rw [Array.getElem?_eq_getElem hj]; rfl)
        have h0i : ∀ j, j < i → ((((strs l).take i).toArray ++ Builtin.zeroCells (Value.string ⟨#[]⟩).cells (l.length + 1 - i) ++ Builtin.zeroCells (Value.string ⟨#[]⟩).cells (grownCap w (l.length + 1) c tStr - (l.length + 1)))[j]?).getD default = .string (S (l.getD j [])) := by
          intro j hj
          rw [Array.getElem?_append_left (by rw [Array.size_append, List.size_toArray, List.length_take, strs_len]; omega), Array.getElem?_append_left (by rw [List.size_toArray, List.length_take, strs_len]; omega), List.getElem?_toArray, List.getElem?_take, if_pos hj, strs_at l j (by omega)]; rfl
        rw [hasz] at h0
        generalize (((strs l).take i).toArray ++ Builtin.zeroCells (Value.string ⟨#[]⟩).cells (l.length + 1 - i) ++ Builtin.zeroCells (Value.string ⟨#[]⟩).cells (grownCap w (l.length + 1) c tStr - (l.length + 1))) = arr at h0 h0i ⊢
        have hr := rowIs_setCells ((strs l).drop i) (i + 1) _ _ (show ((w.alloc (.cells arr tStr)).drew.setCells w.heap.size i [.string (S x)]).drew.rowIs w.heap.size tStr _ _ from rowIs_setCells [.string (S x)] i _ _ (show (w.alloc (.cells arr tStr)).drew.rowIs w.heap.size tStr _ _ from h0))
        refine ⟨_, rfl, .inr ⟨w.heap.size, _, _, by rw [hil], hB, by rw [hil]; exact hge, hcm, by omega, hr, fun j hj => ?_⟩, grown_cells_new (Nat.le_refl _) _ _ _ (grown_drew3 (grown_cells_new (Nat.le_refl _) _ _ _ (grown_drew3 (grown_any ((Below.refl _ _).alloc (Nat.le_refl _) _))))), .inr ⟨_, rfl, Nat.le_refl _⟩⟩
        rw [hil] at hj
        rw [ins_at _ _ _ _ hi, hdl]
        simp only [List.length_singleton]
        by_cases c1 : j < i
        · rw [if_pos c1, if_neg (by omega), if_neg (by omega)]; exact h0i j c1
        · by_cases c2 : j = i
          · subst c2; rw [if_neg c1, if_pos rfl, if_neg (by omega), if_pos (by omega)]; simp
          · rw [if_neg c1, if_neg c2, if_pos (by omega), hd, show i + (j - (i + 1)) = j - 1 by omega, if_pos (by omega)]
/-- an element less -/
theorem delete_any {w : World} {B : Nat} {v : Value} {l : Names} (h : RowS w B v l) (hl : l.length ≤ 1000) (k : Nat) (hk : k < l.length) :
    Calls Tryz.prog 131 #[v, .int .i64 (k : Nat), .int .i64 ((k + 1 : Nat) : Int)] w fun e w' => ∃ v', e = .returned v' ∧ RowS w' B v' (l.eraseIdx k) ∧ w.grownBy w' v.ownBlock ∧ v'.ownBlock = v.ownBlock := by
  rcases h with ⟨rfl, rfl⟩ | ⟨g, c, f, rfl, h1, h2, h3, h4, h5, h6⟩
  · simp at hk
  · have hso : Lib.strsOf (fun t => S (l.getD t [])) l.length = l := by
      apply List.ext_getElem?
      intro i
      unfold Lib.strsOf
      by_cases hi : i < l.length
      · simp [hi, List.getD_eq_getElem?_getD]
        show (l[i].toArray).toList = l[i]
        simp
      · simp [hi]
    refine (Tryz.slices_Delete_string_cells g 0 l.length c k (k + 1) (fun t => S (l.getD t [])) w h2 (by have := h3; unfold maxLen at this; omega) (by omega) (by omega) (fun j hj => by rw [Nat.zero_add, h5.cell (by omega), h6 j hj]) (fun j hj => h5.frozen _)).mono ?_
    rintro e w' ⟨rfl, qq, rfl⟩
    rw [hso]
    have hel : (l.eraseIdx k).length = l.length - (k + 1 - k) := by rw [List.length_eraseIdx_of_lt hk]; omega
    have hml : ((l.take k ++ l.drop (k + 1) ++ List.replicate (k + 1 - k) ([] : List UInt8)).map encStr).length = l.length := by simp; omega
    have hr := rowIs_setCells ((l.take k ++ l.drop (k + 1) ++ List.replicate (k + 1 - k) ([] : List UInt8)).map encStr) 0 _ _ (show (w.drewN qq).rowIs g tStr c f from h5)
    refine ⟨_, rfl, .inr ⟨g, c, _, by rw [hel], h1, by omega, h3, h4, hr, fun j hj => ?_⟩, grown_cells _ _ _ ⟨rfl, rfl, rfl, Nat.le_refl _, fun _ _ _ => rfl⟩, rfl⟩
    rw [hel] at hj
    rw [hml, if_pos (by omega), Nat.sub_zero, List.getElem?_map, List.eraseIdx_eq_take_drop_succ, List.getD_eq_getElem?_getD, List.append_assoc]
    have hj2 : j < (l.take k ++ l.drop (k + 1)).length := by simp; omega
    rw [← List.append_assoc, List.getElem?_append_left hj2, List.getElem?_eq_getElem hj2]
    rfl
end Go.Proofs.YtkdplkhnkimhpaaGreatDoor
