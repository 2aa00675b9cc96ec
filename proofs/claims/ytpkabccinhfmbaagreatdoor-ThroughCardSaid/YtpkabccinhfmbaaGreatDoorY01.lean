/-
  Plain words on paths in tree order, on entries and on changes. No program in sight.
  Plain words: the first change that may not stand where it stands. No program in sight.
  Plain words: the first change that may not stand where it stands, as the program finds it: the same one. No program in sight.
  Plain words: what stands in a tree, by the elements of its path. No program in sight.
  Plain words: the tree of entries, and the first that is wrong, as the program finds it. No program in sight.
  Plain words: an archive's entry, as the document's answer has it. No program in sight.
  Plain words: an archive's name by its elements, and where it is split. No program in sight.
  Plain words: the first entry that is wrong, as the document has it; it is the program's; what a list of entries that is a tree lays. No program in sight.
  Plain words: a row of entries of one's own; a tree without what stands at a path.
  A tree in memory: nodes and their maps, what a change of memory leaves of it.
  A tree in memory: an entry laid in its place.
  A tree in memory: what stands somewhere taken out; a directory emptied.
  Plain words: an entry put in its place.
  Plain: what a header of an archive tells of a change. No program in sight.
  Plain words: the document and the program find the same first change that may not stand where it stands. No program in sight.
  Plain: what the keeper looks at in a header: the words. No program in sight.
-/
import Derived.Sort.Walk0
import Derived.Test.YtpkabccinhfmbaaGreatDoorY00
set_option linter.unusedVariables false
set_option linter.unusedSimpArgs false
namespace Go.Proofs.YtpkabccinhfmbaaGreatDoor

/-- tree order, as the document's answer has it -/
def orderL : List (List UInt8) → List (List UInt8) → Int
  | x :: xs, y :: ys => if x < y then -1 else if y < x then 1 else orderL xs ys
  | xs, ys => (xs.length : Int) - ys.length
/-- tree order, as Go's library has it -/
def compareL : List (List UInt8) → List (List UInt8) → Int
  | [], [] => 0
  | [], _ :: _ => -1
  | _ :: _, [] => 1
  | x :: xs, y :: ys => if x < y then -1 else if y < x then 1 else compareL xs ys
theorem compareL_sign (a b : List (List UInt8)) : (compareL a b = 0 ↔ orderL a b = 0) ∧ (0 < compareL a b ↔ 0 < orderL a b) ∧ (compareL a b < 0 ↔ orderL a b < 0) := by
  induction a generalizing b with
  | nil =>
    cases b with
    | nil => simp [compareL, orderL]
    | cons y ys => simp only [compareL, orderL, List.length_nil, List.length_cons]; omega
  | cons x xs ih =>
    cases b with
    | nil => simp only [compareL, orderL, List.length_nil, List.length_cons]; omega
    | cons y ys =>
      rw [compareL, orderL]
      split
      · simp
      · split
        · simp
        · exact ih ys
theorem compareL_range (a b : List (List UInt8)) : -1 ≤ compareL a b ∧ compareL a b ≤ 1 := by
  induction a generalizing b with
  | nil => cases b <;> simp [compareL]
  | cons x xs ih =>
    cases b with
    | nil => simp [compareL]
    | cons y ys =>
      rw [compareL]
      split
      · simp
      · split
        · simp
        · exact ih ys
/-- Go's comparison of two texts -/
def cmpS (a b : List UInt8) : Int := if a < b then -1 else if b < a then 1 else 0
theorem less_eq (a b : List UInt8) : Op.bytesLess a b = decide (a < b) := _root_.Go.Proofs.bytesLess_eq a b

def inB (dir rest : List UInt8) : List UInt8 := if dir = [] ∨ rest = [] then dir ++ rest else dir ++ 47 :: rest
def belowB (p dir : List UInt8) : Bool := if dir = [] then !p.isEmpty else (dir ++ [47]).isPrefixOf p
/-- the directory that a path is in, and its last element -/
def upB (p : List UInt8) : List UInt8 × List UInt8 := (joinB (partsB p).dropLast, (partsB p).getLastD [])

def visC (c : UInt8) : Bool := 33 ≤ c && c ≤ 126
theorem visC_iff (c : UInt8) : visC c = true ↔ 33 ≤ (c.toNat : Int) ∧ (c.toNat : Int) ≤ 126 := by
  simp only [visC, Bool.and_eq_true, decide_eq_true_eq, UInt8.le_iff_toNat_le]
  simp; omega
def targetB (s : List UInt8) : Bool := s.all visC && (!s.isEmpty && decide (s.length ≤ 100))

/-- an entry, a change -/
structure Ent where
  path : List UInt8
  kind : Int
  mode : Int
  data : List UInt8
  deriving DecidableEq
def Ent.cells (e : Ent) : List Value := [.string (S e.path), .int .i64 e.kind, .int .i64 e.mode, .string (S e.data)]
def Ent.agg (e : Ent) : Value := .agg #[.string (S e.path), .int .i64 e.kind, .int .i64 e.mode, .string (S e.data)]
/-- rows of entries, cell by cell -/
def ents : List Ent → List Value
  | [] => []
  | e :: r => e.cells ++ ents r
theorem ents_len (l : List Ent) : (ents l).length = l.length * 4 := by
  induction l with
  | nil => rfl
  | cons e r ih => simp only [ents, List.length_append, ih, List.length_cons]; simp [Ent.cells]; omega
theorem ents_app (l m : List Ent) : ents (l ++ m) = ents l ++ ents m := by
  induction l with
  | nil => rfl
  | cons e r ih => simp only [List.cons_append, ents, ih, List.append_assoc]
theorem ents_get (l : List Ent) (i : Nat) (h : i < l.length) : (ents l)[i * 4]? = some (.string (S l[i].path)) ∧ (ents l)[i * 4 + 1]? = some (.int .i64 l[i].kind) ∧ (ents l)[i * 4 + 2]? = some (.int .i64 l[i].mode) ∧ (ents l)[i * 4 + 3]? = some (.string (S l[i].data)) := by
  induction l generalizing i with
  | nil => simp at h
  | cons e r ih =>
    cases i with
    | zero => simp [ents, Ent.cells]
    | succ i =>
      have := ih i (by simpa using h)
      have e4 : (i + 1) * 4 = 4 + i * 4 := by omega
      simp only [ents, e4, List.getElem_cons_succ]
      refine ⟨?_, ?_, ?_, ?_⟩
      · rw [List.getElem?_append_right (by simp [Ent.cells])]; simpa [Ent.cells] using this.1
      · rw [List.getElem?_append_right (by simp [Ent.cells]; omega)]; simpa [Ent.cells, Nat.add_assoc] using this.2.1
      · rw [List.getElem?_append_right (by simp [Ent.cells]; omega)]; simpa [Ent.cells, Nat.add_assoc] using this.2.2.1
      · rw [List.getElem?_append_right (by simp [Ent.cells]; omega)]; simpa [Ent.cells, Nat.add_assoc] using this.2.2.2
def modeE (m : Int) : Bool := decide (0 ≤ m ∧ m ≤ 511)
/-- may an entry be, its path aside -/
def goodB (e : Ent) : Bool :=
  if e.kind = 1 then modeE e.mode && e.data.isEmpty
  else if e.kind = 2 then modeE e.mode && decide (e.data.length ≤ 4096)
  else if e.kind = 3 then decide (e.mode = 0) && targetB e.data
  else false
end Go.Proofs.YtpkabccinhfmbaaGreatDoor
namespace Go.Proofs.YtpkabccinhfmbaaGreatDoor

/-- may a change be, by itself -/
def markB (c : Ent) : Bool := (decide (c.kind = 4) || decide (c.kind = 5)) && decide (c.mode = 0) && c.data.isEmpty
def shapeR (i : Nat) (c : Ent) : Bool := !(decide (i = 80) || !pathB c.path || (!goodB c && !markB c) || (c.path.isEmpty && !decide (c.kind = 5)))
/-- is there one ahead of it that shuts it out -/
def shutR (pre : List Ent) (c : Ent) : Bool := pre.any fun x => belowB c.path x.path && !decide (x.kind = 1) && !decide (x.kind = 5)
def nextR (x c : Ent) : Bool := !(decide (0 ≤ orderL (partsB x.path) (partsB c.path)) && !(decide (orderL (partsB x.path) (partsB c.path) = 0) && decide (x.kind = 1) && decide (c.kind = 5)))
/-- the change at i, behind those ahead of it -/
def barR (l : List Ent) (i : Nat) : Bool := match l[i]? with
  | none => false
  | some c => !shapeR i c || (match l[i - 1]? with | some x => decide (0 < i) && !nextR x c | none => false) || shutR (l.take i) c
theorem barR_shape {l : List Ent} {k : Nat} {c : Ent} (h : l[k]? = some c) (hs : shapeR k c = false) : barR l k = true := by
  rw [barR, h]; show (!shapeR k c || _ || _) = true; rw [hs]; rfl
theorem barR_next {l : List Ent} {k : Nat} {c x : Ent} (h : l[k]? = some c) (h0 : 0 < k) (hx : l[k - 1]? = some x) (hn : nextR x c = false) : barR l k = true := by
  have e : barR l k = (!shapeR k c || (match l[k - 1]? with | some x => decide (0 < k) && !nextR x c | none => false) || shutR (l.take k) c) := by rw [barR, h]
  rw [e, hx]
  show (!shapeR k c || (decide (0 < k) && !nextR x c) || _) = true
  rw [hn, decide_eq_true h0]; simp
theorem barR_shut {l : List Ent} {k : Nat} {c : Ent} (h : l[k]? = some c) (hs : shutR (l.take k) c = true) : barR l k = true := by
  have e : barR l k = (!shapeR k c || (match l[k - 1]? with | some x => decide (0 < k) && !nextR x c | none => false) || shutR (l.take k) c) := by rw [barR, h]
  rw [e, hs, Bool.or_true]
theorem barR_ok {l : List Ent} {k : Nat} {c : Ent} (h : l[k]? = some c) (hs : shapeR k c = true) (hx : k = 0 ∨ ∃ x, l[k - 1]? = some x ∧ nextR x c = true) (hh : shutR (l.take k) c = false) : barR l k = false := by
  have e : barR l k = (!shapeR k c || (match l[k - 1]? with | some x => decide (0 < k) && !nextR x c | none => false) || shutR (l.take k) c) := by rw [barR, h]
  rw [e, hs, hh]
  rcases hx with h0 | ⟨x, hx, hn⟩
  · subst h0; cases l[0 - 1]? <;> simp
  · rw [hx]
    show (!true || (decide (0 < k) && !nextR x c) || false) = false
    rw [hn]; simp
theorem shutR_at {pre : List Ent} {c x : Ent} {q : Nat} (h : pre[q]? = some x) (h1 : belowB c.path x.path = true) (h2 : x.kind ≠ 1) (h3 : x.kind ≠ 5) : shutR pre c = true := by
  unfold shutR
  rw [List.any_eq_true]
  exact ⟨x, List.mem_of_getElem? h, by simp [h1, h2, h3]⟩
theorem shutR_none {pre : List Ent} {c : Ent} (h : ∀ (q : Nat) (x : Ent), pre[q]? = some x → belowB c.path x.path = false ∨ x.kind = 1 ∨ x.kind = 5) : shutR pre c = false := by
  unfold shutR
  rw [List.any_eq_false]
  intro x hx
  obtain ⟨q, hq⟩ := List.getElem?_of_mem hx
  rcases h q x hq with h | h | h <;> simp [h]
/-- r is the first of n places at which f says yes; -1: none -/
def First (f : Nat → Bool) (n : Nat) (r : Int) : Prop := (∃ i : Nat, i < n ∧ r = i ∧ f i = true ∧ ∀ j, j < i → f j = false) ∨ (r = -1 ∧ ∀ j, j < n → f j = false)
theorem First.uniq {f g : Nat → Bool} {n : Nat} {r s : Int} (h : First f n r) (k : First g n s) (e : ∀ i, i < n → (∀ j, j < i → f j = false) → (∀ j, j < i → g j = false) → f i = g i) : r = s := by
  have key : ∀ i, i ≤ n → (∀ j, j < i → f j = false) → ∀ j, j < i → g j = false := by
    intro i hi hf
    intro j hj
    induction j using Nat.strongRecOn with
    | ind j ih => rw [← e j (by omega) (fun q hq => hf q (by omega)) (fun q hq => ih q hq (by omega))]; exact hf j hj
  have key2 : ∀ i, i ≤ n → (∀ j, j < i → g j = false) → ∀ j, j < i → f j = false := by
    intro i hi hg
    intro j hj
    induction j using Nat.strongRecOn with
    | ind j ih => rw [e j (by omega) (fun q hq => ih q hq (by omega)) (fun q hq => hg q (by omega))]; exact hg j hj
  rcases h with ⟨i, hi, rfl, h1, h2⟩ | ⟨rfl, h2⟩
  · rcases k with ⟨m, hm, rfl, k1, k2⟩ | ⟨rfl, k2⟩
    · rcases Nat.lt_trichotomy i m with h | h | h
      · have := key2 m (by omega) k2 i h; rw [h1] at this; cases this
      · rw [h]
      · have := key i (by omega) h2 m h; rw [k1] at this; cases this
    · have := key2 n (Nat.le_refl _) k2 i hi; rw [h1] at this; cases this
  · rcases k with ⟨m, hm, rfl, k1, k2⟩ | ⟨rfl, k2⟩
    · have := key n (Nat.le_refl _) h2 m hm; rw [k1] at this; cases this
    · rfl
open Go.RowKit

/-- the k-th of a row of entries, in whatever world comes later -/
theorem ents_at {w wr : World} {A : Option Addr} {l : List Ent} (hr : Rd w A (ents l)) (hbel : Below w.heap.size w wr) (k : Nat) (hlt : k < l.length) :
    ∃ b o, A = some ⟨b, o, none⟩ ∧ b < w.heap.size ∧ wr.cell? ⟨b, o + k * 4, none⟩ = some (.string (S l[k].path)) ∧ wr.cell? ⟨b, o + k * 4 + 1, none⟩ = some (.int .i64 l[k].kind) ∧
      wr.cell? ⟨b, o + k * 4 + 2, none⟩ = some (.int .i64 l[k].mode) ∧ wr.cell? ⟨b, o + k * 4 + 3, none⟩ = some (.string (S l[k].data)) := by
  obtain ⟨b, o, rfl, hbb, hc⟩ := hr.at (k * 4) (by rw [ents_len]; omega)
  obtain ⟨c0, c1, c2, c3⟩ := ents_get l k hlt
  exact ⟨b, o, rfl, hbb, (hbel.cell (p := ⟨b, o + k * 4, none⟩) hbb).trans (hc _ _ c0), (hbel.cell (p := ⟨b, o + (k * 4 + 1), none⟩) hbb).trans (hc _ _ c1),
    (hbel.cell (p := ⟨b, o + (k * 4 + 2), none⟩) hbb).trans (hc _ _ c2), (hbel.cell (p := ⟨b, o + (k * 4 + 3), none⟩) hbb).trans (hc _ _ c3)⟩

/-- a variable of a struct's four cells -/
def Cell4 (W : World) (g : Nat) (c : Ent) : Prop :=
  W.cell? ⟨g, 0, none⟩ = some (.string (S c.path)) ∧ W.cell? ⟨g, 1, none⟩ = some (.int .i64 c.kind) ∧ W.cell? ⟨g, 2, none⟩ = some (.int .i64 c.mode) ∧ W.cell? ⟨g, 3, none⟩ = some (.string (S c.data))
theorem Cell4.below {W W' : World} {g : Nat} {c : Ent} (h : Cell4 W g c) (hb : Below W.heap.size W W') : Cell4 W' g c := by
  obtain ⟨h0, h1, h2, h3⟩ := h
  have hg : g < W.heap.size := World.block_lt_of_cell? W _ h0
  exact ⟨(hb.cell (p := ⟨g, 0, none⟩) hg).trans h0, (hb.cell (p := ⟨g, 1, none⟩) hg).trans h1, (hb.cell (p := ⟨g, 2, none⟩) hg).trans h2, (hb.cell (p := ⟨g, 3, none⟩) hg).trans h3⟩
theorem Cell4.new (w : World) (c : Ent) (t : TypeId) : Cell4 (w.alloc (.cells #[.string (S c.path), .int .i64 c.kind, .int .i64 c.mode, .string (S c.data)] t)) w.heap.size c := by
  refine ⟨?_, ?_, ?_, ?_⟩ <;> rw [World.cell?_alloc_at _ _ _ _ (by simp)] <;> rfl
end Go.Proofs.YtpkabccinhfmbaaGreatDoor
namespace Go.Proofs.YtpkabccinhfmbaaGreatDoor

/-! ### tree order -/
theorem orderL_eq {a b : List (List UInt8)} (h : orderL a b = 0) : a = b := by
  induction a generalizing b with
  | nil =>
    cases b with
    | nil => rfl
    | cons y ys => simp only [orderL, List.length_nil, List.length_cons] at h; omega
  | cons x xs ih =>
    cases b with
    | nil => simp only [orderL, List.length_nil, List.length_cons] at h; omega
    | cons y ys =>
      rw [orderL] at h
      split at h
      · omega
      · split at h
        · omega
        · rename_i h1 h2
          rw [List.le_antisymm (List.not_lt.1 h2) (List.not_lt.1 h1), ih h]
theorem orderL_refl (a : List (List UInt8)) : orderL a a = 0 := by
  induction a with
  | nil => rfl
  | cons x xs ih => rw [orderL, if_neg (List.lt_irrefl x), if_neg (List.lt_irrefl x), ih]
theorem orderL_trans {a b c : List (List UInt8)} (h1 : orderL a b < 0) (h2 : orderL b c < 0) : orderL a c < 0 := by
  induction a generalizing b c with
  | nil =>
    cases c with
    | nil =>
      cases b with
      | nil => exact h1
      | cons y ys => simp only [orderL, List.length_nil, List.length_cons] at h2; omega
    | cons z zs => simp only [orderL, List.length_nil, List.length_cons]; omega
  | cons x xs ih =>
    cases b with
    | nil => simp only [orderL, List.length_nil, List.length_cons] at h1; omega
    | cons y ys =>
      cases c with
      | nil => simp only [orderL, List.length_nil, List.length_cons] at h2; omega
      | cons z zs =>
        rw [orderL] at h1 h2 ⊢
        by_cases hxy : x < y
        · by_cases hyz : y < z
          · rw [if_pos (List.lt_trans hxy hyz)]; omega
          · rw [if_neg hyz] at h2
            by_cases hzy : z < y
            · rw [if_pos hzy] at h2; omega
            · have e : y = z := List.le_antisymm (List.not_lt.1 hzy) (List.not_lt.1 hyz)
              subst e
              rw [if_pos hxy]; omega
        · rw [if_neg hxy] at h1
          by_cases hyx : y < x
          · rw [if_pos hyx] at h1; omega
          · rw [if_neg hyx] at h1
            have e : x = y := List.le_antisymm (List.not_lt.1 hyx) (List.not_lt.1 hxy)
            subst e
            by_cases hyz : x < z
            · rw [if_pos hyz]; omega
            · rw [if_neg hyz] at h2 ⊢
              by_cases hzy : z < x
              · rw [if_pos hzy] at h2; omega
              · rw [if_neg hzy] at h2 ⊢
                exact ih h1 h2
/-- what stands between a path and one below it is below it, too -/
theorem orderL_between {a y c : List (List UInt8)} (h : a <+: c) (h1 : orderL a y < 0) (h2 : orderL y c < 0) : a <+: y := by
  induction a generalizing y c with
  | nil => exact List.nil_prefix
  | cons x xs ih =>
    obtain ⟨r, rfl⟩ := h
    cases y with
    | nil => simp only [orderL, List.length_nil, List.length_cons] at h1; omega
    | cons z zs =>
      rw [List.cons_append, orderL] at h2
      rw [orderL] at h1
      by_cases hxz : x < z
      · rw [if_neg (fun h => List.lt_irrefl x (List.lt_trans hxz h)), if_pos hxz] at h2; omega
      · rw [if_neg hxz] at h1
        by_cases hzx : z < x
        · rw [if_pos hzx] at h1; omega
        · rw [if_neg hzx] at h1
          have e : x = z := List.le_antisymm (List.not_lt.1 hzx) (List.not_lt.1 hxz)
          subst e
          rw [if_neg (List.lt_irrefl x), if_neg (List.lt_irrefl x)] at h2
          obtain ⟨t, ht⟩ := ih ⟨r, rfl⟩ h1 h2
          exact ⟨t, by rw [List.cons_append, ht]⟩

/-! ### paths and their elements -/
theorem cutB_app (c : UInt8) (p r : List UInt8) : cutB c (p ++ c :: r) = cutB c p ++ cutB c r := by
  induction p with
  | nil => simp [cutB]
  | cons x p ih =>
    rw [List.cons_append, cutB, cutB]
    split
    · rw [ih]; rfl
    · rw [ih]
      cases h : cutB c p with
      | nil => exact absurd h (cutB_ne c p)
      | cons a t => rfl
theorem joinB_cut (p : List UInt8) : joinB (cutB 47 p) = p := by
  induction p with
  | nil => rfl
  | cons x p ih =>
    rw [cutB]
    split
    · rename_i h
      subst h
      cases h2 : cutB 47 p with
      | nil => exact absurd h2 (cutB_ne 47 p)
      | cons a t => rw [joinB, ← h2, ih]; rfl
    · cases h2 : cutB 47 p with
      | nil => exact absurd h2 (cutB_ne 47 p)
      | cons a t =>
        rw [h2] at ih
        cases t with
        | nil => simp only [joinB] at ih ⊢; rw [ih]
        | cons b u => simp only [joinB, List.cons_append] at ih ⊢; rw [ih]
theorem joinB_app (a b : List (List UInt8)) (ha : a ≠ []) (hb : b ≠ []) : joinB (a ++ b) = joinB a ++ 47 :: joinB b := by
  induction a with
  | nil => exact absurd rfl ha
  | cons x r ih =>
    cases r with
    | nil =>
      cases b with
      | nil => exact absurd rfl hb
      | cons y s => rfl
    | cons y s =>
      have := ih (by simp)
      simp only [List.cons_append, joinB] at this ⊢
      rw [this]; simp
theorem below_parts {p d : List UInt8} (hd : d ≠ []) (h : (d ++ [47]).isPrefixOf p = true) : partsB d <+: partsB p := by
  rw [List.isPrefixOf_iff_prefix] at h
  obtain ⟨r, rfl⟩ := h
  have e : d ++ [47] ++ r = d ++ 47 :: r := by simp
  rw [e]
  unfold partsB
  rw [if_neg hd, if_neg (by simp), cutB_app]
  exact ⟨_, rfl⟩
theorem parts_below {p d : List UInt8} (hd : d ≠ []) (h : partsB d <+: partsB p) (hne : partsB d ≠ partsB p) : (d ++ [47]).isPrefixOf p = true := by
  obtain ⟨r, hr⟩ := h
  have hp : p ≠ [] := by
    intro e
    subst e
    have h1 : partsB ([] : List UInt8) = [] := rfl
    rw [h1] at hr
    have := (List.append_eq_nil_iff.1 hr).1
    unfold partsB at this
    rw [if_neg hd] at this
    exact cutB_ne _ _ this
  have hrn : r ≠ [] := by intro e; subst e; rw [List.append_nil] at hr; exact hne hr
  unfold partsB at hr
  rw [if_neg hd, if_neg hp] at hr
  have := congrArg joinB hr
  rw [joinB_app _ _ (cutB_ne _ _) hrn, joinB_cut, joinB_cut] at this
  rw [List.isPrefixOf_iff_prefix]
  exact ⟨joinB r, by rw [← this]; simp⟩

/-! ### what the program asks -/
def shuts (x : Ent) : Bool := !decide (x.kind = 1) && !decide (x.kind = 5)
/-- behind changes: what is shut, if anything is -/
def shutOf (pre : List Ent) : Option (List UInt8) := (pre.filter shuts).getLast?.map (fun x => x.path ++ [47])
theorem shutOf_snoc (pre : List Ent) (c : Ent) : shutOf (pre ++ [c]) = if shuts c then some (c.path ++ [47]) else shutOf pre := by
  unfold shutOf
  rw [List.filter_append]
  cases h : shuts c <;> simp [h]
def shapeP (k : Nat) (c : Ent) : Bool :=
  decide (k < 80) && pathB c.path &&
  (if c.kind = 4 then !c.path.isEmpty && decide (c.mode = 0) && c.data.isEmpty
   else if c.kind = 5 then decide (c.mode = 0) && c.data.isEmpty
   else !c.path.isEmpty && goodB c)
def nextP (x c : Ent) : Bool :=
  if compareL (partsB x.path) (partsB c.path) = 0 then decide (x.kind = 1) && decide (c.kind = 5) else !decide (0 < compareL (partsB x.path) (partsB c.path))
def shutP (s : Option (List UInt8)) (c : Ent) : Bool := match s with | some t => t.isPrefixOf c.path | none => false
def barP (l : List Ent) (k : Nat) : Bool := match l[k]? with
  | none => false
  | some c => !(shapeP k c && (match l[k - 1]? with | some x => decide (k = 0) || nextP x c | none => true)) || shutP (shutOf (l.take k)) c

theorem next_same (x c : Ent) : nextP x c = nextR x c := by
  obtain ⟨h1, h2, h3⟩ := compareL_sign (partsB x.path) (partsB c.path)
  unfold nextP nextR
  by_cases h0 : compareL (partsB x.path) (partsB c.path) = 0
  · rw [if_pos h0, decide_eq_true (by rw [h1.1 h0]; omega : 0 ≤ orderL (partsB x.path) (partsB c.path)), decide_eq_true (h1.1 h0)]
    simp
  · rw [if_neg h0]
    by_cases hp : 0 < compareL (partsB x.path) (partsB c.path)
    · have hq := h2.1 hp
      rw [decide_eq_true hp, decide_eq_true (by omega : 0 ≤ orderL (partsB x.path) (partsB c.path)), decide_eq_false (by omega : ¬ orderL (partsB x.path) (partsB c.path) = 0)]
      simp
    · have hq : orderL (partsB x.path) (partsB c.path) < 0 := h3.1 (by omega)
      rw [decide_eq_false hp, decide_eq_false (by omega : ¬ 0 ≤ orderL (partsB x.path) (partsB c.path))]
      simp
theorem goodB_kind {c : Ent} (h : goodB c = true) : c.kind = 1 ∨ c.kind = 2 ∨ c.kind = 3 := by
  unfold goodB at h
  split at h
  · exact .inl (by assumption)
  · split at h
    · exact .inr (.inl (by assumption))
    · split at h
      · exact .inr (.inr (by assumption))
      · cases h
theorem shape_same {k : Nat} {c : Ent} (hk : k ≤ 80) : shapeP k c = shapeR k c := by
  unfold shapeP shapeR
  have e80 : decide (k < 80) = !decide (k = 80) := by
    by_cases h : k = 80
    · rw [decide_eq_true h, decide_eq_false (by omega)]; rfl
    · rw [decide_eq_false h, decide_eq_true (by omega)]; rfl
  rw [e80]
  by_cases h4 : c.kind = 4
  · have hg : goodB c = false := by
      cases hg : goodB c
      · rfl
      · rcases goodB_kind hg with h | h | h <;> omega
    have hm : markB c = (decide (c.mode = 0) && c.data.isEmpty) := by unfold markB; rw [decide_eq_true h4]; simp
    rw [if_pos h4, hg, hm, decide_eq_false (by omega : ¬ c.kind = 5)]
    cases decide (k = 80) <;> cases pathB c.path <;> cases c.path.isEmpty <;> cases decide (c.mode = 0) <;> cases c.data.isEmpty <;> rfl
  · rw [if_neg h4]
    by_cases h5 : c.kind = 5
    · have hg : goodB c = false := by
        cases hg : goodB c
        · rfl
        · rcases goodB_kind hg with h | h | h <;> omega
      have hm : markB c = (decide (c.mode = 0) && c.data.isEmpty) := by unfold markB; rw [decide_eq_true h5]; simp
      rw [if_pos h5, hg, hm, decide_eq_true h5]
      cases decide (k = 80) <;> cases pathB c.path <;> cases c.path.isEmpty <;> cases decide (c.mode = 0) <;> cases c.data.isEmpty <;> rfl
    · have hm : markB c = false := by unfold markB; rw [decide_eq_false h4, decide_eq_false h5]; rfl
      rw [if_neg h5, hm, decide_eq_false h5]
      cases decide (k = 80) <;> cases pathB c.path <;> cases c.path.isEmpty <;> cases goodB c <;> rfl
end Go.Proofs.YtpkabccinhfmbaaGreatDoor
namespace Go.Proofs.YtpkabccinhfmbaaGreatDoor

/-- a node: its kind, its mode, its bytes -/
structure Nd where
  kind : Int
  mode : Int
  data : List UInt8
  deriving DecidableEq
abbrev Pth := List (List UInt8)
abbrev Forest := Pth → Option Nd
/-- a tree: what stands somewhere stands in a directory; the root is one -/
structure IsTree (F : Forest) : Prop where
  up : ∀ p e, (F (p ++ [e])).isSome = true → ∃ x, F p = some x ∧ x.kind = 1
  root : ∃ x, F [] = some x ∧ x.kind = 1
theorem IsTree.pre {F : Forest} (h : IsTree F) (p q : Pth) (hp : F p = none) : F (p ++ q) = none := by
  suffices hh : ∀ n (q : Pth), q.length = n → F (p ++ q) = none from hh _ q rfl
  intro n
  induction n with
  | zero => intro q hq; rw [List.eq_nil_of_length_eq_zero hq, List.append_nil]; exact hp
  | succ n ih =>
    intro q hq
    rcases List.eq_nil_or_concat q with rfl | ⟨q, e, rfl⟩
    · simp at hq
    · simp only [List.concat_eq_append] at hq ⊢
      cases hF : F (p ++ (q ++ [e])) with
      | none => rfl
      | some x =>
        obtain ⟨y, hy, _⟩ := h.up (p ++ q) e (by rw [List.append_assoc, hF]; rfl)
        rw [ih q (by simpa using hq)] at hy; cases hy
def emptyF : Forest := fun p => if p = [] then some ⟨1, 493, []⟩ else none
theorem emptyF_tree : IsTree emptyF := by
  refine ⟨fun p e h => ?_, ⟨_, rfl, rfl⟩⟩
  unfold emptyF at h
  rw [if_neg (by simp)] at h; cases h
def isDirF (F : Forest) (p : Pth) : Bool := match F p with | some x => decide (x.kind = 1) | none => false
theorem isDirF_iff {F : Forest} {p : Pth} : isDirF F p = true ↔ ∃ x, F p = some x ∧ x.kind = 1 := by
  unfold isDirF
  cases h : F p with
  | none => simp
  | some x => simp
/-- an entry in its place: what stood there goes, with all below it, but if both are directories -/
def putF (F : Forest) (p : Pth) (x : Nd) : Forest := fun q => if q = p then some x else if p <+: q then (if x.kind = 1 ∧ isDirF F p = true then F q else none) else F q
def cutF (F : Forest) (p : Pth) : Forest := fun q => if p <+: q then none else F q
def clearF (F : Forest) (p : Pth) : Forest := fun q => if p <+: q ∧ q ≠ p then none else F q
theorem prefix_snoc {p q : Pth} {e : List UInt8} (h : p <+: q ++ [e]) : p <+: q ∨ p = q ++ [e] := by
  obtain ⟨r, hr⟩ := h
  rcases List.eq_nil_or_concat r with rfl | ⟨r, x, rfl⟩
  · rw [List.append_nil] at hr; exact .inr hr
  · simp only [List.concat_eq_append] at hr
    rw [← List.append_assoc] at hr
    obtain ⟨h1, h2⟩ := List.append_inj' hr rfl
    exact .inl ⟨r, h1⟩
theorem putF_tree {F : Forest} (h : IsTree F) (d : Pth) (e : List UInt8) (x : Nd) (hd : isDirF F d = true) : IsTree (putF F (d ++ [e]) x) := by
  obtain ⟨y, hy, hk⟩ := isDirF_iff.1 hd
  have hdne : ∀ q : Pth, d ++ [e] <+: q → q ≠ d := by
    rintro q ⟨r, rfl⟩ he
    have := congrArg List.length he; simp at this
  refine ⟨fun p f hf => ?_, ?_⟩
  · unfold putF at hf ⊢
    by_cases e1 : p ++ [f] = d ++ [e]
    · obtain ⟨rfl, _⟩ := List.append_inj' e1 rfl
      rw [if_neg (by intro e2; have := congrArg List.length e2; simp at this), if_neg (fun hp => hdne _ hp rfl)]
      exact ⟨y, hy, hk⟩
    · rw [if_neg e1] at hf
      by_cases e2 : d ++ [e] <+: p ++ [f]
      · rw [if_pos e2] at hf
        have e3 : d ++ [e] <+: p := by
          rcases prefix_snoc e2 with h3 | h3
          · exact h3
          · exact absurd h3.symm e1
        by_cases e4 : x.kind = 1 ∧ isDirF F (d ++ [e]) = true
        · rw [if_pos e4] at hf
          by_cases e5 : p = d ++ [e]
          · rw [if_pos e5]; exact ⟨x, rfl, e4.1⟩
          · rw [if_neg e5, if_pos e3, if_pos e4]; exact h.up p f hf
        · rw [if_neg e4] at hf; cases hf
      · rw [if_neg e2] at hf
        have e3 : ¬ d ++ [e] <+: p := fun hp => e2 (hp.trans (List.prefix_append _ _))
        rw [if_neg (show ¬ p = d ++ [e] from fun e5 => e3 (e5 ▸ List.prefix_rfl)), if_neg e3]
        exact h.up p f hf
  · obtain ⟨r, hr, hrk⟩ := h.root
    unfold putF
    rw [if_neg (by simp), if_neg (by rintro ⟨t, ht⟩; have := congrArg List.length ht; simp at this)]
    exact ⟨r, hr, hrk⟩
theorem cutF_tree {F : Forest} (h : IsTree F) (p : Pth) (hp : p ≠ []) : IsTree (cutF F p) := by
  refine ⟨fun q f hf => ?_, ?_⟩
  · unfold cutF at hf ⊢
    by_cases e : p <+: q ++ [f]
    · rw [if_pos e] at hf; cases hf
    · rw [if_neg e] at hf
      rw [if_neg (fun h2 => e (h2.trans (List.prefix_append _ _)))]
      exact h.up q f hf
  · obtain ⟨r, hr, hrk⟩ := h.root
    unfold cutF
    rw [if_neg (by rw [List.prefix_nil]; exact hp)]
    exact ⟨r, hr, hrk⟩
theorem clearF_tree {F : Forest} (h : IsTree F) (p : Pth) : IsTree (clearF F p) := by
  refine ⟨fun q f hf => ?_, ?_⟩
  · unfold clearF at hf ⊢
    by_cases e : p <+: q ++ [f] ∧ q ++ [f] ≠ p
    · rw [if_pos e] at hf; cases hf
    · rw [if_neg e] at hf
      have e2 : ¬ (p <+: q ∧ q ≠ p) := fun ⟨h1, _⟩ => e ⟨h1.trans (List.prefix_append _ _), fun h3 => by
        have h4 := h1.length_le; have h5 := congrArg List.length h3; simp at h5; omega⟩
      rw [if_neg e2]; exact h.up q f hf
  · obtain ⟨r, hr, hrk⟩ := h.root
    unfold clearF
    rw [if_neg (by rintro ⟨h1, h2⟩; exact h2 (List.prefix_nil.1 h1).symm)]
    exact ⟨r, hr, hrk⟩
end Go.Proofs.YtpkabccinhfmbaaGreatDoor
namespace Go.Proofs.YtpkabccinhfmbaaGreatDoor

def ndOf (x : Ent) : Nd := ⟨x.kind, x.mode, x.data⟩
/-- entries laid into a tree, one by one -/
def layF (F : Forest) (l : List Ent) : Forest := l.foldl (fun F e => putF F (partsB e.path) (ndOf e)) F
def treeOf (l : List Ent) : Forest := layF emptyF l
theorem layF_snoc (F : Forest) (l : List Ent) (e : Ent) : layF F (l ++ [e]) = putF (layF F l) (partsB e.path) (ndOf e) := by unfold layF; rw [List.foldl_append]; rfl
theorem treeOf_take (l : List Ent) (k : Nat) (h : k < l.length) : treeOf (l.take (k + 1)) = putF (treeOf (l.take k)) (partsB l[k].path) (ndOf l[k]) := by
  rw [List.take_succ_eq_append_getElem h]; exact layF_snoc _ _ _
/-- may the entry at k not stand behind those ahead of it -/
def wrongP (l : List Ent) (k : Nat) : Bool := match l[k]? with
  | none => false
  | some c => decide (k = 40) || c.path.isEmpty || !pathB c.path || !goodB c || (match l[k - 1]? with | some x => decide (0 < k) && decide (0 ≤ compareL (partsB x.path) (partsB c.path)) | none => false) || !isDirF (treeOf (l.take k)) (partsB c.path).dropLast
theorem wrongP_eq {l : List Ent} {k : Nat} {c : Ent} (h : l[k]? = some c) : wrongP l k = (decide (k = 40) || c.path.isEmpty || !pathB c.path || !goodB c || (match l[k - 1]? with | some x => decide (0 < k) && decide (0 ≤ compareL (partsB x.path) (partsB c.path)) | none => false) || !isDirF (treeOf (l.take k)) (partsB c.path).dropLast) := by unfold wrongP; rw [h]
end Go.Proofs.YtpkabccinhfmbaaGreatDoor
namespace Go.Proofs.YtpkabccinhfmbaaGreatDoor

/-- a number in octal digits -/
def octB (n : Nat) : List UInt8 := if n < 8 then [UInt8.ofNat (48 + n)] else octB (n / 8) ++ [UInt8.ofNat (48 + n % 8)]
theorem octB_small {n : Nat} (h : n < 8) : octB n = [UInt8.ofNat (48 + n)] := by rw [octB, if_pos h]
theorem octB_big {n : Nat} (h : ¬ n < 8) : octB n = octB (n / 8) ++ [UInt8.ofNat (48 + n % 8)] := by rw [octB, if_neg h]
theorem octB_pos (n : Nat) : 0 < (octB n).length := by
  by_cases h : n < 8
  · rw [octB_small h]; simp
  · rw [octB_big h]; simp
theorem octB_len (n : Nat) (k : Nat) (h : n < 8 ^ (k + 1)) : (octB n).length ≤ k + 1 := by
  induction k generalizing n with
  | zero => rw [octB_small (by simpa using h)]; simp
  | succ k ih =>
    by_cases h8 : n < 8
    · rw [octB_small h8]; simp
    · rw [octB_big h8]
      have := ih (n / 8) (by rw [Nat.div_lt_iff_lt_mul (by omega)]; rw [Nat.pow_succ] at h; exact h)
      simp only [List.length_append, List.length_singleton]; omega

/-- a text, and noughts behind it -/
def filB (s : List UInt8) (n : Nat) : List UInt8 := s ++ List.replicate (n - s.length) 0
theorem filB_len (s : List UInt8) (n : Nat) (h : s.length ≤ n) : (filB s n).length = n := by simp [filB]; omega
/-- a number in n octal digits, and a nought -/
def digB (v n : Nat) : List UInt8 := List.replicate (n - (octB v).length) 48 ++ octB v ++ [0]
theorem digB_len (v n : Nat) (h : (octB v).length ≤ n) : (digB v n).length = n + 1 := by simp [digB]; omega

/-- the name that a change has in an archive -/
def namB (c : Ent) : List UInt8 :=
  if c.kind = 1 then c.path ++ [47] else if c.kind = 4 then inB (upB c.path).1 ([46, 119, 104, 46] ++ (upB c.path).2)
  else if c.kind = 5 then inB c.path [46, 119, 104, 46, 46, 119, 104, 46, 46, 111, 112, 113] else c.path

/-- the first slash behind which at most a hundred bytes stand, from place i on -/
def slashB (s : List UInt8) (i : Nat) : Nat :=
  if h : i < s.length then (if s[i] = 47 ∧ s.length - i - 1 ≤ 100 then i else slashB s (i + 1)) else s.length
termination_by s.length - i
theorem slashB_here {s : List UInt8} {i : Nat} (h : i < s.length) (h1 : s[i] = 47) (h2 : s.length - i - 1 ≤ 100) : slashB s i = i := by rw [slashB, dif_pos h, if_pos ⟨h1, h2⟩]
theorem slashB_next {s : List UInt8} {i : Nat} (h : i < s.length) (h1 : ¬ (s[i] = 47 ∧ s.length - i - 1 ≤ 100)) : slashB s i = slashB s (i + 1) := by rw [slashB, dif_pos h, if_neg h1]
theorem slashB_end {s : List UInt8} {i : Nat} (h : ¬ i < s.length) : slashB s i = s.length := by rw [slashB, dif_neg h]
/-- a name in two -/
def splB (s : List UInt8) : List UInt8 × List UInt8 :=
  if s.length ≤ 100 then ([], s) else if slashB s 0 < s.length then (s.take (slashB s 0), s.drop (slashB s 0 + 1)) else ([], s)

def sumB (l : List UInt8) : Nat := (l.map UInt8.toNat).sum
theorem sumB_le (l : List UInt8) : sumB l ≤ l.length * 255 := by
  induction l with
  | nil => simp [sumB]
  | cons c r ih => have := c.toNat_lt; simp only [sumB, List.map_cons, List.sum_cons, List.length_cons] at *; omega
theorem sumB_take (l : List UInt8) (k : Nat) (h : k < l.length) : sumB (l.take (k + 1)) = sumB (l.take k) + l[k].toNat := by
  rw [List.take_succ_eq_append_getElem h]; simp only [sumB, List.map_append, List.sum_append, List.map_cons, List.map_nil, List.sum_cons, List.sum_nil, Nat.add_zero]
theorem sumB_app (l m : List UInt8) : sumB (l ++ m) = sumB l + sumB m := by simp [sumB]

def flagB (c : Ent) : UInt8 := if c.kind = 1 then 53 else if c.kind = 3 then 50 else 48
def linkB (c : Ent) : List UInt8 := if c.kind = 3 then c.data else []
def dataB (c : Ent) : List UInt8 := if c.kind = 2 then c.data else []
def headB (c : Ent) : List UInt8 :=
  filB (splB (namB c)).2 100 ++ digB c.mode.toNat 7 ++ digB 0 7 ++ digB 0 7 ++ digB (dataB c).length 11 ++ digB 0 11
def tailB (c : Ent) : List UInt8 :=
  flagB c :: filB (linkB c) 100 ++ [117, 115, 116, 97, 114, 0, 48, 48] ++ filB [] 64 ++ digB 0 7 ++ digB 0 7 ++ filB (splB (namB c)).1 155 ++ filB [] 12
def totB (c : Ent) : Nat := 256 + sumB (headB c) + sumB (tailB c)
/-- a change's bytes -/
def entB (c : Ent) : List UInt8 :=
  headB c ++ digB (totB c) 6 ++ [32] ++ tailB c ++ dataB c ++ filB [] ((512 - (dataB c).length % 512) % 512)
/-- an archive -/
def packB (l : List Ent) : List UInt8 := (l.map entB).flatten ++ filB [] 1024
end Go.Proofs.YtpkabccinhfmbaaGreatDoor
namespace Go.Proofs.YtpkabccinhfmbaaGreatDoor

/-- a change that may be, its place aside -/
def Fit (c : Ent) : Prop := pathB c.path = true ∧ (goodB c = true ∨ markB c = true) ∧ (c.path = [] → c.kind = 5)
theorem shape_fit {i : Nat} {c : Ent} (h : shapeR i c = true) : Fit c := by
  unfold shapeR at h
  simp only [Bool.not_or, Bool.not_not, Bool.and_eq_true, Bool.not_and, Bool.or_eq_true, Bool.not_eq_true', decide_eq_false_iff_not] at h
  obtain ⟨⟨⟨_, h1⟩, h2⟩, h3⟩ := h
  refine ⟨h1, ?_, fun e => ?_⟩
  · rcases h2 with h2 | h2
    · exact .inl (by simpa using h2)
    · exact .inr (by simpa using h2)
  · rcases h3 with h3 | h3
    · rw [e] at h3; cases h3
    · simpa using h3
theorem barR_fit {l : List Ent} {i : Nat} {c : Ent} (h : l[i]? = some c) (hb : barR l i = false) : Fit c := by
  refine shape_fit (i := i) ?_
  cases hs : shapeR i c with
  | true => rfl
  | false => rw [barR_shape h hs] at hb; cases hb

/-- elements that a name may be made of -/
structure NameE (es : List (List UInt8)) : Prop where
  ne : es ≠ []
  each : ∀ e ∈ es, (47 : UInt8) ∉ e ∧ e.length ≤ 64
  inner : ∀ k (_ : k + 1 < es.length), es[k] ≠ []
  first : es.head? ≠ some []

/-- the name's elements -/
def elemsB (c : Ent) : List (List UInt8) :=
  if c.kind = 1 then partsB c.path ++ [[]] else if c.kind = 4 then (partsB c.path).dropLast ++ [[46, 119, 104, 46] ++ (partsB c.path).getLastD []]
  else if c.kind = 5 then partsB c.path ++ [[46, 119, 104, 46, 46, 119, 104, 46, 46, 111, 112, 113]] else partsB c.path
theorem elementB_ok {e : List UInt8} (h : elementB e = true) : e ≠ [] ∧ e.length ≤ 60 ∧ (47 : UInt8) ∉ e := by
  unfold elementB at h
  simp only [Bool.and_eq_true, Bool.not_eq_true', decide_eq_true_eq] at h
  obtain ⟨⟨⟨⟨⟨h1, h2⟩, _⟩, _⟩, _⟩, h6⟩ := h
  refine ⟨(by intro e0; rw [e0] at h1; cases h1), h2, fun hm => ?_⟩
  have := List.all_eq_true.1 h6 _ hm
  revert this; decide
theorem pathB_ok {p : List UInt8} (h : pathB p = true) : p.length ≤ 170 ∧ ∀ e ∈ partsB p, elementB e = true := by
  unfold pathB at h
  simp only [Bool.and_eq_true, decide_eq_true_eq] at h
  exact ⟨h.1.1, fun e he => List.all_eq_true.1 h.2 e he⟩
theorem partsB_ne {p : List UInt8} (h : p ≠ []) : partsB p ≠ [] := by unfold partsB; rw [if_neg h]; exact cutB_ne _ _
theorem joinB_parts (p : List UInt8) : joinB (partsB p) = p := by
  unfold partsB; split
  · rename_i h; rw [h]; rfl
  · exact joinB_cut p
theorem joinB_nil {l : List (List UInt8)} (h : ∀ e ∈ l, e ≠ []) (hn : l ≠ []) : joinB l ≠ [] := by
  cases l with
  | nil => exact absurd rfl hn
  | cons x r =>
    cases r with
    | nil => exact h x (by simp)
    | cons y s => rw [joinB]; intro e; have := congrArg List.length e; simp at this
theorem inB_join {l : List (List UInt8)} {x : List UInt8} (h : ∀ e ∈ l, e ≠ []) (hx : x ≠ []) : inB (joinB l) x = joinB (l ++ [x]) := by
  unfold inB
  by_cases hl : l = []
  · subst hl; rw [if_pos (.inl rfl)]; rfl
  · rw [if_neg (by rintro (e | e); exact joinB_nil h hl e; exact hx e), joinB_snoc _ _ hl]

theorem cut_join {l : List (List UInt8)} (h : ∀ e ∈ l, (47 : UInt8) ∉ e) (hl : l ≠ []) : cutB 47 (joinB l) = l := by
  induction l with
  | nil => exact absurd rfl hl
  | cons x r ih =>
    cases r with
    | nil => exact cutB_last 47 x (h x (by simp))
    | cons y s =>
      rw [joinB, cutB_piece 47 x _ (h x (by simp)), ih (fun e he => h e (by simp only [List.mem_cons] at he ⊢; exact .inr he)) (by simp)]
theorem parts_join2 {l : List (List UInt8)} (h : ∀ e ∈ l, e ≠ [] ∧ (47 : UInt8) ∉ e) : partsB (joinB l) = l := by
  by_cases hl : l = []
  · subst hl; rfl
  · unfold partsB
    rw [if_neg (joinB_nil (fun e he => (h e he).1) hl)]
    exact cut_join (fun e he => (h e he).2) hl
theorem elems_name {c : Ent} (h : Fit c) : namB c = joinB (elemsB c) ∧ NameE (elemsB c) := by
  obtain ⟨hp, hg, h0⟩ := h
  obtain ⟨hl, he⟩ := pathB_ok hp
  have he2 : ∀ e ∈ partsB c.path, e ≠ [] ∧ e.length ≤ 60 ∧ (47 : UInt8) ∉ e := fun e hm => elementB_ok (he e hm)
  have hcat : ∀ (l : List (List UInt8)) (x : List UInt8), (∀ e ∈ l, e ≠ [] ∧ e.length ≤ 60 ∧ (47 : UInt8) ∉ e) → (47 : UInt8) ∉ x → x.length ≤ 64 → (l = [] → x ≠ []) → NameE (l ++ [x]) := by
    intro l x h1 h2 h3 h4
    refine ⟨by simp, ?_, ?_, ?_⟩
    · intro e hm
      rcases List.mem_append.1 hm with hm | hm
      · have := h1 e hm; exact ⟨this.2.2, by omega⟩
      · rw [List.mem_singleton.1 hm]; exact ⟨h2, h3⟩
    · intro k hk
      have hk2 : k < l.length := by simp at hk; omega
      rw [List.getElem_append_left hk2]
      exact (h1 _ (List.getElem_mem hk2)).1
    · cases l with
      | nil => simpa using h4 rfl
      | cons a r => simpa using (h1 a (by simp)).1
  unfold namB elemsB
  by_cases k1 : c.kind = 1
  · rw [if_pos k1, if_pos k1]
    have hpn : c.path ≠ [] := fun e => by rw [h0 e] at k1; cases k1
    refine ⟨?_, hcat _ _ he2 (by simp) (by simp) (fun e => absurd e (partsB_ne hpn))⟩
    rw [joinB_snoc _ _ (partsB_ne hpn), joinB_parts]
  · rw [if_neg k1, if_neg k1]
    by_cases k4 : c.kind = 4
    · rw [if_pos k4, if_pos k4]
      have hpn : c.path ≠ [] := fun e => by rw [h0 e] at k4; cases k4
      have hd : ∀ e ∈ (partsB c.path).dropLast, e ≠ [] ∧ e.length ≤ 60 ∧ (47 : UInt8) ∉ e := fun e hm => he2 e (List.dropLast_subset _ hm)
      have hlast : (partsB c.path).getLastD [] ∈ partsB c.path := by
        have hne := partsB_ne hpn
        rw [List.getLastD_eq_getLast?, List.getLast?_eq_some_getLast hne]
        exact List.getLast_mem hne
      obtain ⟨g1, g2, g3⟩ := he2 _ hlast
      refine ⟨?_, hcat _ _ hd (by rw [List.mem_append]; rintro (hm | hm); revert hm; decide; exact g3 hm) (by simp only [List.length_append, List.length_cons, List.length_nil]; omega) (fun _ e => by have := congrArg List.length e; simp at this)⟩
      unfold upB
      exact inB_join (fun e hm => (hd e hm).1) (by simp)
    · rw [if_neg k4, if_neg k4]
      by_cases k5 : c.kind = 5
      · rw [if_pos k5, if_pos k5]
        refine ⟨?_, hcat _ _ he2 (by decide) (by decide) (fun _ => by simp)⟩
        have := inB_join (l := partsB c.path) (x := [46, 119, 104, 46, 46, 119, 104, 46, 46, 111, 112, 113]) (fun e hm => (he2 e hm).1) (by simp)
        rw [joinB_parts] at this; exact this
      · rw [if_neg k5, if_neg k5]
        have hpn : c.path ≠ [] := fun e => k5 (h0 e)
        refine ⟨(joinB_parts _).symm, partsB_ne hpn, fun e hm => ⟨(he2 e hm).2.2, by have := he2 e hm; omega⟩, fun k hk => (he2 _ (List.getElem_mem _)).1, ?_⟩
        intro e
        exact (he2 [] (List.mem_of_mem_head? e)).1 rfl

/-! ### the split -/
theorem slashB_from (s : List UInt8) (q i : Nat) (hq : q ≤ i) (hi : i < s.length) (h1 : s[i] = 47) (h2 : s.length - i - 1 ≤ 100) (hb : ∀ j (hj : j < s.length), q ≤ j → j < i → ¬ (s[j] = 47 ∧ s.length - j - 1 ≤ 100)) : slashB s q = i := by
  by_cases e : q = i
  · subst e; exact slashB_here hi h1 h2
  · rw [slashB_next (by omega) (hb q (by omega) (Nat.le_refl _) (by omega))]
    exact slashB_from s (q + 1) i (by omega) hi h1 h2 (fun j hj h3 h4 => hb j hj (by omega) h4)
termination_by i - q
theorem joinB_split (es : List (List UInt8)) (k : Nat) (h0 : 0 < k) (hk : k < es.length) : joinB es = joinB (es.take k) ++ 47 :: joinB (es.drop k) := by
  conv => lhs; rw [← List.take_append_drop k es]
  refine joinB_app _ _ ?_ ?_
  · intro e; have := congrArg List.length e; rw [List.length_take, List.length_nil] at this; omega
  · intro e; have := congrArg List.length e; rw [List.length_drop, List.length_nil] at this; omega
theorem joinB_drop (es : List (List UInt8)) (k : Nat) (hk : k + 1 < es.length) : joinB (es.drop k) = es[k] ++ 47 :: joinB (es.drop (k + 1)) := by
  rw [List.drop_eq_getElem_cons (by omega)]
  have : es.drop (k + 1) = es[k + 1] :: es.drop (k + 2) := List.drop_eq_getElem_cons hk
  rw [this, joinB]
theorem joinB_drop_last (es : List (List UInt8)) (k : Nat) (hk : k + 1 = es.length) : joinB (es.drop k) = es[k] := by
  rw [List.drop_eq_getElem_cons (by omega), show k + 1 = es.length from hk, List.drop_length]; rfl
/-- the name split behind k elements -/
theorem split_here {es : List (List UInt8)} (hE : NameE es) (k : Nat) (h0 : 0 < k) (hk : k < es.length) (h1 : 100 < (joinB (es.drop (k - 1))).length) (h2 : (joinB (es.drop k)).length ≤ 100) :
    splB (joinB es) = (joinB (es.take k), joinB (es.drop k)) := by
  have e := joinB_split es k h0 hk
  have hlen : (joinB es).length = (joinB (es.take k)).length + 1 + (joinB (es.drop k)).length := by rw [e]; simp; omega
  obtain ⟨m, rfl⟩ : ∃ m, k = m + 1 := ⟨k - 1, by omega⟩
  rw [Nat.add_sub_cancel] at h1
  have hm := joinB_take es m (by omega)
  have hd := joinB_drop es m hk
  have hgt : 100 < (joinB es).length := by
    by_cases hm0 : m = 0
    · subst hm0; rw [List.drop_zero] at h1; exact h1
    · rw [joinB_split es m (by omega) (by omega)]; simp; omega
  have hat : slashB (joinB es) 0 = (joinB (es.take (m + 1))).length := by
    refine slashB_from _ 0 _ (Nat.zero_le _) (by omega) ?_ (by omega) ?_
    · simp only [e]; rw [List.getElem_append_right (Nat.le_refl _)]; simp
    · intro j hj _ hlt ⟨hc, hle⟩
      have hes : ∀ e' ∈ es, (47 : UInt8) ∉ e' := fun e' he => (hE.each e' he).1
      have hcj : (joinB (es.take (m + 1)))[j] = 47 := by
        simp only [e] at hc; rw [List.getElem_append_left hlt] at hc; exact hc
      by_cases hm0 : m = 0
      · subst hm0
        rw [if_pos rfl] at hm
        refine hes es[0] (List.getElem_mem _) ?_
        rw [← hm, ← hcj]; exact List.getElem_mem _
      · rw [if_neg hm0] at hm
        have hld : (joinB (es.drop m)).length = es[m].length + 1 + (joinB (es.drop (m + 1))).length := by rw [hd]; simp; omega
        have hlt2 : (joinB (es.take (m + 1))).length = (joinB (es.take m)).length + 1 + es[m].length := by rw [hm]; simp; omega
        have hj2 : (joinB (es.take m)).length < j := by omega
        simp only [hm] at hcj
        rw [List.getElem_append_right (by omega), List.getElem_cons] at hcj
        rw [dif_neg (by omega)] at hcj
        exact hes es[m] (List.getElem_mem _) (hcj ▸ List.getElem_mem _)
  unfold splB
  rw [if_neg (by omega), hat, if_pos (by omega)]
  conv => lhs; rw [e]
  simp
theorem split_none {s : List UInt8} (h : s.length ≤ 100) : splB s = ([], s) := by unfold splB; rw [if_pos h]
/-- what is split off is of such lengths -/
theorem split_len {es : List (List UInt8)} (hE : NameE es) (hl : (joinB es).length ≤ 190) : (splB (joinB es)).1.length ≤ 155 ∧ (splB (joinB es)).2.length ≤ 100 := by
  by_cases h : (joinB es).length ≤ 100
  · rw [split_none h]; exact ⟨by simp, h⟩
  · have hn : 0 < es.length := List.length_pos_iff.2 hE.ne
    have key : ∀ n k, es.length - k = n → k < es.length → 100 < (joinB (es.drop k)).length → ∃ q, 0 < q ∧ q < es.length ∧ 100 < (joinB (es.drop (q - 1))).length ∧ (joinB (es.drop q)).length ≤ 100 := by
      intro n
      induction n with
      | zero => intro k h1 h2; omega
      | succ n ih =>
        intro k h1 h2 h3
        by_cases hk : k + 1 < es.length
        · by_cases h4 : (joinB (es.drop (k + 1))).length ≤ 100
          · exact ⟨k + 1, by omega, hk, by rw [Nat.add_sub_cancel]; exact h3, h4⟩
          · exact ih (k + 1) (by omega) hk (by omega)
        · rw [joinB_drop_last es k (by omega)] at h3
          have := (hE.each es[k] (List.getElem_mem _)).2; omega
    obtain ⟨q, h1, h2, h3, h4⟩ := key _ 0 rfl hn (by rw [List.drop_zero]; omega)
    rw [split_here hE q h1 h2 h3 h4]
    refine ⟨?_, h4⟩
    have e := joinB_split es q h1 h2
    have hlen : (joinB es).length = (joinB (es.take q)).length + 1 + (joinB (es.drop q)).length := by rw [e]; simp; omega
    have hd := joinB_drop es (q - 1) (by omega)
    have he := (hE.each es[q - 1] (List.getElem_mem _)).2
    rw [hd] at h3
    simp only [show q - 1 + 1 = q by omega, List.length_append, List.length_cons] at h3
    show (joinB (es.take q)).length ≤ 155
    omega
theorem name_len {c : Ent} (h : Fit c) : (namB c).length ≤ 190 := by
  obtain ⟨hp, _, h0⟩ := h
  obtain ⟨hl, _⟩ := pathB_ok hp
  have hin : ∀ a b : List UInt8, (inB a b).length ≤ a.length + b.length + 1 := by
    intro a b; unfold inB; split <;> simp <;> omega
  unfold namB; split
  · simp; omega
  · split
    · rename_i _ k4
      have hpn : c.path ≠ [] := fun e => by rw [h0 e] at k4; cases k4
      have h1 := hin (upB c.path).1 ([46, 119, 104, 46] ++ (upB c.path).2)
      have h2 : (upB c.path).1.length + (upB c.path).2.length ≤ c.path.length := by
        have hj := joinB_parts c.path
        have hne := partsB_ne hpn
        have hdl : partsB c.path = (partsB c.path).dropLast ++ [(partsB c.path).getLastD []] := by
          rw [List.getLastD_eq_getLast?, List.getLast?_eq_some_getLast hne]; exact (List.dropLast_concat_getLast hne).symm
        unfold upB
        simp only
        by_cases hd0 : (partsB c.path).dropLast = []
        · rw [hd0] at hdl ⊢
          rw [hdl] at hj
          simp only [List.nil_append] at hj
          have := congrArg List.length hj
          simp only [joinB] at this
          simp [joinB]
          rw [List.getLastD_eq_getLast?] at this
          omega
        · rw [hdl, joinB_snoc _ _ hd0] at hj
          have := congrArg List.length hj
          simp only [List.length_append, List.length_cons] at this
          omega
      simp only [List.length_append, List.length_cons, List.length_nil] at h1; omega
    · split
      · have := hin c.path [46, 119, 104, 46, 46, 119, 104, 46, 46, 111, 112, 113]; simp at this; omega
      · omega
end Go.Proofs.YtpkabccinhfmbaaGreatDoor
namespace Go.Proofs.YtpkabccinhfmbaaGreatDoor

/-- of what kind is what stands at a path -/
def kindL (l : List Ent) (p : List UInt8) : Int := if p = [] then 1 else match l.find? (fun e => decide (e.path = p)) with | some e => e.kind | none => 0
def wrongR (l : List Ent) (i : Nat) : Bool := match l[i]? with
  | none => false
  | some c => decide (i = 40) || !pathB c.path || !goodB c || c.path.isEmpty || (match l[i - 1]? with | some x => decide (0 < i) && decide (0 ≤ orderL (partsB x.path) (partsB c.path)) | none => false) || !decide (kindL (l.take i) (upB c.path).1 = 1)
theorem wrongR_eq {l : List Ent} {i : Nat} {c : Ent} (h : l[i]? = some c) : wrongR l i = (decide (i = 40) || !pathB c.path || !goodB c || c.path.isEmpty || (match l[i - 1]? with | some x => decide (0 < i) && decide (0 ≤ orderL (partsB x.path) (partsB c.path)) | none => false) || !decide (kindL (l.take i) (upB c.path).1 = 1)) := by unfold wrongR; rw [h]
theorem parts_same {p q : List UInt8} (h : partsB p = partsB q) : p = q := by rw [← joinB_parts p, h, joinB_parts q]

/-- a list of entries that are a tree's, in tree order -/
structure Lists (l : List Ent) (F : Forest) : Prop where
  each : ∀ e ∈ l, pathB e.path = true ∧ e.path ≠ [] ∧ goodB e = true
  mem : ∀ e ∈ l, F (partsB e.path) = some (ndOf e)
  only : ∀ p x, F p = some x → p = [] ∨ ∃ e ∈ l, partsB e.path = p ∧ ndOf e = x
  root : F [] = some ⟨1, 493, []⟩
  rise : l.Pairwise fun a b => orderL (partsB a.path) (partsB b.path) < 0
theorem Lists.nil : Lists [] emptyF := by
  refine ⟨fun e he => by simp at he, fun e he => by simp at he, fun p x hx => ?_, rfl, List.Pairwise.nil⟩
  unfold emptyF at hx
  split at hx
  · rename_i h; exact .inl h
  · cases hx
theorem orderL_prefix {a b : List (List UInt8)} (h : a <+: b) (hne : b ≠ a) : orderL b a > 0 := by
  induction a generalizing b with
  | nil =>
    cases b with
    | nil => exact absurd rfl hne
    | cons y ys => simp only [orderL, List.length_nil, List.length_cons]; omega
  | cons x xs ih =>
    obtain ⟨r, rfl⟩ := h
    rw [List.cons_append, orderL, if_neg (List.lt_irrefl x), if_neg (List.lt_irrefl x)]
    exact ih ⟨r, rfl⟩ (fun e => hne (by rw [List.cons_append, e]))
theorem orderL_anti {a b : List (List UInt8)} (h : orderL a b < 0) : 0 < orderL b a := by
  induction a generalizing b with
  | nil =>
    cases b with
    | nil => simp [orderL] at h
    | cons y ys => simp only [orderL, List.length_nil, List.length_cons]; omega
  | cons x xs ih =>
    cases b with
    | nil => simp only [orderL, List.length_nil, List.length_cons] at h; omega
    | cons y ys =>
      rw [orderL] at h ⊢
      by_cases hxy : x < y
      · rw [if_neg (fun h2 => List.lt_irrefl x (List.lt_trans hxy h2)), if_pos hxy]; omega
      · rw [if_neg hxy] at h
        by_cases hyx : y < x
        · rw [if_pos hyx] at h; omega
        · rw [if_neg hyx] at h
          rw [if_neg hyx, if_neg hxy]; exact ih h
/-- one entry more, behind all others -/
theorem Lists.snoc {l : List Ent} {F : Forest} (h : Lists l F) (c : Ent) (hp : pathB c.path = true) (hne : c.path ≠ []) (hg : goodB c = true) (hlt : ∀ e ∈ l, orderL (partsB e.path) (partsB c.path) < 0) : Lists (l ++ [c]) (putF F (partsB c.path) (ndOf c)) := by
  have hLne := partsB_ne hne
  -- nothing stands below the new one
  have hun : ∀ q, partsB c.path <+: q → q ≠ partsB c.path → F q = none := by
    intro q hq hqne
    cases hF : F q with
    | none => rfl
    | some x =>
      rcases h.only q x hF with rfl | ⟨e, he, rfl, _⟩
      · exact absurd (List.prefix_nil.1 hq) hLne
      · have h1 := hlt e he
        have h2 := orderL_prefix hq hqne
        omega
  have hself : F (partsB c.path) = none := by
    cases hF : F (partsB c.path) with
    | none => rfl
    | some x =>
      rcases h.only _ x hF with he | ⟨e, he, hq, _⟩
      · exact absurd he hLne
      · have h1 := hlt e he
        rw [hq, orderL_refl] at h1; omega
  have hput : ∀ q, q ≠ partsB c.path → putF F (partsB c.path) (ndOf c) q = F q := by
    intro q hq
    unfold putF
    rw [if_neg hq]
    by_cases hpq : partsB c.path <+: q
    · rw [if_pos hpq, hun q hpq hq]; split <;> rfl
    · rw [if_neg hpq]
  have hsame : putF F (partsB c.path) (ndOf c) (partsB c.path) = some (ndOf c) := by unfold putF; rw [if_pos rfl]
  refine ⟨fun e he => ?_, fun e he => ?_, fun p x hx => ?_, ?_, ?_⟩
  · rcases List.mem_append.1 he with he | he
    · exact h.each e he
    · rw [List.mem_singleton.1 he]; exact ⟨hp, hne, hg⟩
  · rcases List.mem_append.1 he with he | he
    · rw [hput _ (fun e2 => by have := hlt e he; rw [e2, orderL_refl] at this; omega)]
      exact h.mem e he
    · rw [List.mem_singleton.1 he]; exact hsame
  · by_cases e1 : p = partsB c.path
    · rw [e1, hsame] at hx
      exact .inr ⟨c, by simp, e1.symm, Option.some.inj hx⟩
    · rw [hput p e1] at hx
      rcases h.only p x hx with h1 | ⟨e, he, h1⟩
      · exact .inl h1
      · exact .inr ⟨e, by simp [he], h1⟩
  · rw [hput [] hLne.symm]; exact h.root
  · rw [List.pairwise_append]
    exact ⟨h.rise, by simp, fun x hx y hy => by rw [List.mem_singleton.1 hy]; exact hlt x hx⟩
theorem rise_all {l : List Ent} {c x : Ent} (h : l.Pairwise fun a b => orderL (partsB a.path) (partsB b.path) < 0) (hx : l.getLast? = some x) (hc : orderL (partsB x.path) (partsB c.path) < 0) : ∀ e ∈ l, orderL (partsB e.path) (partsB c.path) < 0 := by
  intro e he
  obtain ⟨q, rfl⟩ : ∃ q, l = q ++ [x] := by
    rcases List.eq_nil_or_concat l with rfl | ⟨q, y, rfl⟩
    · simp at hx
    · rw [List.concat_eq_append] at hx ⊢
      rw [List.getLast?_concat] at hx
      exact ⟨q, by rw [Option.some.inj hx]⟩
  rcases List.mem_append.1 he with he | he
  · exact orderL_trans ((List.pairwise_append.1 h).2.2 e he x (by simp)) hc
  · rw [List.mem_singleton.1 he]; exact hc
/-- behind entries of which none is wrong -/
theorem lists_take {l : List Ent} {k : Nat} (hk : k ≤ l.length) (h : ∀ j, j < k → wrongP l j = false) : Lists (l.take k) (treeOf (l.take k)) := by
  induction k with
  | zero => exact Lists.nil
  | succ k ih =>
    have hlt : k < l.length := hk
    have hL := ih (by omega) (fun j hj => h j (by omega))
    have hw := h k (by omega)
    have hc : l[k]? = some l[k] := List.getElem?_eq_getElem hlt
    rw [wrongP_eq hc] at hw
    simp only [Bool.or_eq_false_iff, Bool.not_eq_false'] at hw
    obtain ⟨⟨⟨⟨⟨_, h2⟩, h3⟩, h4⟩, h5⟩, _⟩ := hw
    have hne : l[k].path ≠ [] := fun e => by rw [e] at h2; cases h2
    rw [treeOf_take l k hlt, List.take_succ_eq_append_getElem hlt]
    refine hL.snoc l[k] h3 hne h4 ?_
    by_cases h0 : k = 0
    · subst h0; intro e he; simp at he
    · have hx : l[k - 1]? = some (l[k - 1]'(by omega)) := List.getElem?_eq_getElem (by omega)
      rw [hx] at h5
      have h6 : ¬ (0 ≤ compareL (partsB (l[k - 1]'(by omega)).path) (partsB l[k].path)) := by
        intro hc0
        have h5' : (decide (0 < k) && decide (0 ≤ compareL (partsB (l[k - 1]'(by omega)).path) (partsB l[k].path))) = false := h5
        rw [decide_eq_true (by omega : 0 < k), decide_eq_true hc0] at h5'; cases h5'
      have h7 := (compareL_sign (partsB (l[k - 1]'(by omega)).path) (partsB l[k].path)).2.2.1 (by omega)
      refine rise_all hL.rise (x := l[k - 1]'(by omega)) ?_ h7
      rw [List.getLast?_eq_getElem?, List.length_take, List.getElem?_take_of_lt (by omega), show min k l.length - 1 = k - 1 by omega, hx]
theorem kind_same {l : List Ent} {F : Forest} (h : Lists l F) (d : List UInt8) (hd : d = [] ∨ d ≠ []) : decide (kindL l d = 1) = isDirF F (partsB d) := by
  unfold kindL isDirF
  by_cases h0 : d = []
  · subst h0
    rw [if_pos rfl, show partsB ([] : List UInt8) = [] from rfl, h.root]
  · rw [if_neg h0]
    cases hf : l.find? (fun e => decide (e.path = d)) with
    | some e =>
      have h1 := List.find?_some hf
      have h2 := List.mem_of_find?_eq_some hf
      have h3 : e.path = d := by simpa using h1
      rw [← h3, h.mem e h2]; rfl
    | none =>
      cases hF : F (partsB d) with
      | none => rfl
      | some x =>
        rcases h.only _ x hF with h1 | ⟨e, he, h1, _⟩
        · exact absurd h1 (partsB_ne h0)
        · have := List.find?_eq_none.1 hf e he
          rw [parts_same h1] at this; simp at this
theorem wrong_same {l : List Ent} {i : Nat} (hi : i < l.length) (h : ∀ j, j < i → wrongP l j = false) : wrongP l i = wrongR l i := by
  have hc : l[i]? = some l[i] := List.getElem?_eq_getElem hi
  rw [wrongP_eq hc, wrongR_eq hc]
  cases hpb : pathB l[i].path with
  | false => simp
  | true =>
    have e1 : isDirF (treeOf (l.take i)) (partsB l[i].path).dropLast = decide (kindL (l.take i) (upB l[i].path).1 = 1) := by
      rw [kind_same (lists_take (by omega) h) _ (Classical.em _)]
      congr 1
      unfold upB
      have hok := (pathB_ok hpb).2
      refine (parts_join2 fun e he => ?_).symm
      have := elementB_ok (hok e (List.dropLast_subset _ he)); exact ⟨this.1, this.2.2⟩
    have e2 : ∀ x : Ent, decide (0 ≤ compareL (partsB x.path) (partsB l[i].path)) = decide (0 ≤ orderL (partsB x.path) (partsB l[i].path)) := by
      intro x
      obtain ⟨s1, s2, s3⟩ := compareL_sign (partsB x.path) (partsB l[i].path)
      by_cases hc0 : compareL (partsB x.path) (partsB l[i].path) < 0
      · have := s3.1 hc0
        rw [decide_eq_false (by omega), decide_eq_false (by omega)]
      · have : ¬ orderL (partsB x.path) (partsB l[i].path) < 0 := fun h2 => hc0 (s3.2 h2)
        rw [decide_eq_true (by omega), decide_eq_true (by omega)]
    rw [e1]
    cases hx : l[i - 1]? with
    | none => cases l[i].path.isEmpty <;> cases goodB l[i] <;> simp
    | some x =>
      simp only [e2 x]
      cases l[i].path.isEmpty <;> cases goodB l[i] <;> simp
theorem wrongs_same {l : List Ent} {r s : Int} (h : First (wrongP l) l.length r) (k : First (wrongR l) l.length s) : r = s :=
  h.uniq k (fun i hi hb _ => wrong_same hi hb)
end Go.Proofs.YtpkabccinhfmbaaGreatDoor
namespace Go.Proofs.YtpkabccinhfmbaaGreatDoor
open Go.RowKit

def entZ : Value := .agg #[.string ByteArray.empty, .int .i64 0, .int .i64 0, .string ByteArray.empty]
theorem cells4_at (w : World) (a b c d : Value) (t : TypeId) (B : Nat) (hB : w.heap.size = B) : ∀ j u, [a, b, c, d][j]? = some u → (w.alloc (.cells #[a, b, c, d] t)).cell? ((⟨B, 0, none⟩ : Addr).add j) = some u := by
  subst hB
  intro j u h
  match j, h with
  | 0, h => simp at h; subst h; simp [Addr.add]
  | 1, h => simp at h; subst h; simp [Addr.add]
  | 2, h => simp at h; subst h; simp [Addr.add]
  | 3, h => simp at h; subst h; simp [Addr.add]
/-- a row of entries of one's own -/
abbrev OwnE (w : World) (B : Nat) (v : Value) (l : List Ent) : Prop := w.ownsRow B 41 4 v l.length (ents l)
theorem own_snoc {w : World} {B : Nat} {v : Value} {l : List Ent} {p : List UInt8} {k m : Int} {d : List UInt8} (h : w.ownsRow B 41 4 v (l.length + 1) (ents l ++ [.string (S p), .int .i64 k, .int .i64 m, .string (S d)])) : OwnE w B v (l ++ [⟨p, k, m, d⟩]) := by
  unfold OwnE
  rw [ents_app, List.length_append, List.length_singleton]
  exact h
def keepW (p : List UInt8) (self : Bool) (x : Ent) : Bool := !(belowB x.path p || (self && decide (x.path = p)))
def withoutL (l : List Ent) (p : List UInt8) (self : Bool) : List Ent := l.filter (keepW p self)
theorem withoutL_take {l : List Ent} {p : List UInt8} {self : Bool} {k : Nat} {c : Ent} (h : l[k]? = some c) : withoutL (l.take (k + 1)) p self = withoutL (l.take k) p self ++ (if keepW p self c then [c] else []) := by
  obtain ⟨hk, rfl⟩ := List.getElem?_eq_some_iff.1 h
  rw [List.take_succ_eq_append_getElem hk, withoutL, List.filter_append, withoutL]
  congr 1
  simp only [List.filter_cons, List.filter_nil]
end Go.Proofs.YtpkabccinhfmbaaGreatDoor
namespace Go.Proofs.YtpkabccinhfmbaaGreatDoor
open Go.RowKit

abbrev tNode : TypeId := 108
abbrev tTree : TypeId := 79
def mapV (x : Nd) (b : Nat) : Value := if x.kind = 1 then .map (some b) else .map none
def nodeC (x : Nd) (b : Nat) : Array Value := #[.string (S []), .int .i64 x.kind, .int .i64 x.mode, .string (S x.data), mapV x b]
/-- the names below a path -/
def kidsF (F : Forest) (a : Pth → Nat) (p : Pth) : List UInt8 → Option Nat := fun e => if (F (p ++ [e])).isSome then some (a (p ++ [e])) else none
/-- from block B on: nodes at a, their maps at m, of at most N names each, hold the tree F -/
structure TreeAt (w : World) (B N : Nat) (a m : Pth → Nat) (F : Forest) : Prop where
  tree : IsTree F
  node : ∀ p x, F p = some x → w.heap[a p]? = some (.cells (nodeC x (m p)) tNode (0, 0))
  dir : ∀ p x, F p = some x → x.kind = 1 → MapIs w (m p) N (kidsF F a p)
  base : ∀ p x, F p = some x → B ≤ a p ∧ (x.kind = 1 → B ≤ m p)
  inj : ∀ p q, (F p).isSome = true → (F q).isSome = true → a p = a q → p = q
  injm : ∀ p q, isDirF F p = true → isDirF F q = true → m p = m q → p = q
theorem TreeAt.lt {w : World} {B N : Nat} {a m : Pth → Nat} {F : Forest} (h : TreeAt w B N a m F) (p : Pth) (x : Nd) (hx : F p = some x) : a p < w.heap.size ∧ (x.kind = 1 → m p < w.heap.size) :=
  ⟨(Array.getElem?_eq_some_iff.1 (h.node p x hx)).1, fun hk => (h.dir p x hx hk).lt⟩
theorem TreeAt.keep {w w' : World} {B N : Nat} {a m : Pth → Nat} {F : Forest} (h : TreeAt w B N a m F) (hb : ∀ k, B ≤ k → k < w.heap.size → w'.heap[k]? = w.heap[k]?) : TreeAt w' B N a m F :=
  ⟨h.tree, fun p x hx => (hb _ (h.base p x hx).1 (h.lt p x hx).1).trans (h.node p x hx), fun p x hx hk => (h.dir p x hx hk).block (hb _ ((h.base p x hx).2 hk) ((h.lt p x hx).2 hk)), h.base, h.inj, h.injm⟩
theorem TreeAt.below {w w' : World} {B N : Nat} {a m : Pth → Nat} {F : Forest} (h : TreeAt w B N a m F) (hb : Below w.heap.size w w') : TreeAt w' B N a m F := h.keep fun k _ hk => hb.block k hk
theorem TreeAt.mono {w : World} {B N M : Nat} {a m : Pth → Nat} {F : Forest} (h : TreeAt w B N a m F) (hM : N ≤ M) : TreeAt w B M a m F :=
  ⟨h.tree, h.node, fun p x hx hk => (h.dir p x hx hk).mono hM, h.base, h.inj, h.injm⟩
/-- the cells of a node -/
theorem TreeAt.cells {w : World} {B N : Nat} {a m : Pth → Nat} {F : Forest} (h : TreeAt w B N a m F) (p : Pth) (x : Nd) (hx : F p = some x) :
    w.cell? ⟨a p, 0, none⟩ = some (.string (S [])) ∧ w.cell? ⟨a p, 1, none⟩ = some (.int .i64 x.kind) ∧ w.cell? ⟨a p, 2, none⟩ = some (.int .i64 x.mode) ∧ w.cell? ⟨a p, 3, none⟩ = some (.string (S x.data)) ∧ w.cell? ⟨a p, 4, none⟩ = some (mapV x (m p)) := by
  have := h.node p x hx
  refine ⟨?_, ?_, ?_, ?_, ?_⟩ <;> rw [cell_of_row w _ _ _ _ _ this] <;> rfl
/-- what is below a node, by name -/
theorem TreeAt.look {w : World} {B N : Nat} {a m : Pth → Nat} {F : Forest} (h : TreeAt w B N a m F) (p : Pth) (x : Nd) (hx : F p = some x) (e : List UInt8) (he : e.length ≤ maxLen) :
    (Instr.lookup tMap (mapV x (m p)) (.string (S e)) false).run Tryz.prog w = .ok (nodeV (if (F (p ++ [e])).isSome then some (a (p ++ [e])) else none)) w := by
  unfold mapV
  by_cases hk : x.kind = 1
  · rw [if_pos hk]; exact (h.dir p x hx hk).look e he
  · rw [if_neg hk]
    have : (F (p ++ [e])).isSome = false := by
      cases hs : (F (p ++ [e])).isSome with
      | false => rfl
      | true =>
        obtain ⟨y, hy, hk2⟩ := h.tree.up p e hs
        rw [hx] at hy; obtain rfl := Option.some.inj hy; exact absurd hk2 hk
    rw [this]
    exact look_nil w e he
/-- a tree's variable -/
def TreeV (w : World) (t : Nat) (a : Pth → Nat) : Prop := w.cell? ⟨t, 0, none⟩ = some (.pointer (some ⟨a [], 0, none⟩))
theorem TreeV.below {w w' : World} {t : Nat} {a : Pth → Nat} (h : TreeV w t a) (hb : Below w.heap.size w w') : TreeV w' t a := (hb.cell (World.block_lt_of_cell? w _ h)).trans h
end Go.Proofs.YtpkabccinhfmbaaGreatDoor
namespace Go.Proofs.YtpkabccinhfmbaaGreatDoor
open Go.RowKit

def updP (a : Pth → Nat) (p : Pth) (g : Nat) : Pth → Nat := fun q => if q = p then g else a q
theorem updP_same (a : Pth → Nat) (p : Pth) (g : Nat) : updP a p g p = g := by simp [updP]
theorem updP_other {a : Pth → Nat} {p q : Pth} {g : Nat} (h : q ≠ p) : updP a p g q = a q := by simp [updP, h]
theorem putF_same (F : Forest) (p : Pth) (x : Nd) : putF F p x p = some x := by simp [putF]
theorem putF_off {F : Forest} {p q : Pth} {x : Nd} (h : ¬ p <+: q) : putF F p x q = F q := by
  unfold putF
  rw [if_neg (show ¬ q = p from fun e => h (e ▸ List.prefix_rfl)), if_neg h]
theorem putF_under {F : Forest} {p q : Pth} {x : Nd} (h : p <+: q) (hne : q ≠ p) : putF F p x q = if x.kind = 1 ∧ isDirF F p = true then F q else none := by
  unfold putF
  rw [if_neg hne, if_pos h]
/-- what stands elsewhere stood there -/
theorem putF_old {F : Forest} {p q : Pth} {x y : Nd} (hne : q ≠ p) (h : putF F p x q = some y) : F q = some y := by
  by_cases hp : p <+: q
  · rw [putF_under hp hne] at h
    split at h
    · exact h
    · cases h
  · rw [putF_off hp] at h; exact h
theorem snoc_ne (d : Pth) (e : List UInt8) : d ++ [e] ≠ d := by intro h; have := congrArg List.length h; simp at this
theorem snoc_notpre (d : Pth) (e : List UInt8) : ¬ d ++ [e] <+: d := by intro h; have := h.length_le; simp only [List.length_append, List.length_singleton] at this; omega

theorem TreeAt.put {w w1 w2 : World} {B N : Nat} {a m : Pth → Nat} {F : Forest} (h : TreeAt w B N a m F) (d : Pth) (e : List UInt8) (x : Nd) (hd : isDirF F d = true) (hB : B ≤ w.heap.size)
    (h1 : Below w.heap.size w w1) (g mb : Nat) (hg : w.heap.size ≤ g) (hnode : w1.heap[g]? = some (.cells (nodeC x mb) tNode (0, 0)))
    (hmb : x.kind = 1 → (isDirF F (d ++ [e]) = true → mb = m (d ++ [e])) ∧ (isDirF F (d ++ [e]) = false → w.heap.size ≤ mb ∧ MapIs w1 mb 0 (fun _ => none)))
    (hup : MapIs w2 (m d) (N + 1) (upd (kidsF F a d) e (some g))) (h2 : w1.grownBy w2 (some (m d))) :
    TreeAt w2 B (N + 1) (updP a (d ++ [e]) g) (updP m (d ++ [e]) mb) (putF F (d ++ [e]) x) := by
  obtain ⟨y, hy, hk⟩ := isDirF_iff.1 hd
  have hmd := h.dir d y hy hk
  have hmdlt := hmd.lt
  -- blocks that stay
  have cellsStay : ∀ (k : Nat) (c : Array Value) (t : TypeId) (f : Nat × Nat), w.heap[k]? = some (Obj.cells c t f) → w2.heap[k]? = some (Obj.cells c t f) := by
    intro k c t f hkk
    have hlt := (Array.getElem?_eq_some_iff.1 hkk).1
    have e1 := (h1.block k hlt).trans hkk
    refine (h2.block k (by have := h1.size; omega) ?_).trans e1
    intro he
    have he2 : k = m d := Option.some.inj he
    obtain ⟨D, ⟨es, clock, hm2, _⟩, _⟩ := hmd
    rw [he2, hm2] at hkk; cases hkk
  have mapStay : ∀ (k n : Nat) (f : List UInt8 → Option Nat), k ≠ m d → k < w.heap.size → MapIs w k n f → MapIs w2 k n f := by
    intro k n f hne hlt hm
    exact hm.block ((h2.block k (by have := h1.size; omega) (fun he => hne (Option.some.inj he))).trans (h1.block k hlt))
  have hnode2 : w2.heap[g]? = some (.cells (nodeC x mb) tNode (0, 0)) := by
    refine (h2.block g (Array.getElem?_eq_some_iff.1 hnode).1 ?_).trans hnode
    intro he
    have : g = m d := Option.some.inj he
    omega
  have hdne : d ≠ d ++ [e] := (snoc_ne d e).symm
  -- the names below a path that is neither d nor d ++ [e]
  have kidsSame : ∀ q z, q ≠ d → q ≠ d ++ [e] → putF F (d ++ [e]) x q = some z → kidsF (putF F (d ++ [e]) x) (updP a (d ++ [e]) g) q = kidsF F a q := by
    intro q z hqd hqe hz
    funext f
    unfold kidsF
    have hne : q ++ [f] ≠ d ++ [e] := by
      intro he; exact hqd (List.append_inj' he rfl).1
    rw [updP_other hne]
    have : putF F (d ++ [e]) x (q ++ [f]) = F (q ++ [f]) := by
      by_cases hp : d ++ [e] <+: q ++ [f]
      · have hpq : d ++ [e] <+: q := by
          rcases prefix_snoc hp with h3 | h3
          · exact h3
          · exact absurd h3.symm hne
        rw [putF_under hpq hqe] at hz
        rw [putF_under hp hne]
        split at hz
        · rename_i hc; rw [if_pos hc]
        · cases hz
      · exact putF_off hp
    rw [this]
  refine ⟨putF_tree h.tree d e x hd, ?_, ?_, ?_, ?_, ?_⟩
  · intro q z hz
    by_cases hq : q = d ++ [e]
    · subst hq
      rw [putF_same] at hz
      obtain rfl := Option.some.inj hz
      rw [updP_same, updP_same]; exact hnode2
    · rw [updP_other hq, updP_other hq]
      exact cellsStay _ _ _ _ (h.node q z (putF_old hq hz))
  · intro q z hz hzk
    by_cases hq : q = d ++ [e]
    · subst hq
      rw [putF_same] at hz
      obtain rfl := Option.some.inj hz
      rw [updP_same]
      obtain ⟨hm1, hm2⟩ := hmb hzk
      cases hdir : isDirF F (d ++ [e]) with
      | true =>
        obtain ⟨y2, hy2, hk2⟩ := isDirF_iff.1 hdir
        have hold := h.dir _ _ hy2 hk2
        rw [hm1 hdir]
        have hne : m (d ++ [e]) ≠ m d := fun he => snoc_ne d e (h.injm _ _ hdir hd he)
        have e1 : kidsF (putF F (d ++ [e]) x) (updP a (d ++ [e]) g) (d ++ [e]) = kidsF F a (d ++ [e]) := by
          funext f
          unfold kidsF
          have hne2 := snoc_ne (d ++ [e]) f
          have e3 : putF F (d ++ [e]) x (d ++ [e] ++ [f]) = F (d ++ [e] ++ [f]) := by
            rw [putF_under (List.prefix_append _ _) hne2]; exact if_pos ⟨hzk, hdir⟩
          rw [updP_other hne2, e3]
        rw [e1]
        exact (mapStay _ _ _ hne hold.lt hold).mono (Nat.le_succ _)
      | false =>
        obtain ⟨hlt, hmade⟩ := hm2 hdir
        have e1 : kidsF (putF F (d ++ [e]) x) (updP a (d ++ [e]) g) (d ++ [e]) = fun _ => none := by
          funext f
          unfold kidsF
          have e3 : putF F (d ++ [e]) x (d ++ [e] ++ [f]) = none := by
            rw [putF_under (List.prefix_append _ _) (snoc_ne (d ++ [e]) f)]; exact if_neg (by rw [hdir]; simp)
          rw [e3]; rfl
        rw [e1]
        exact ((hmade.block (h2.block mb hmade.lt (fun he => by have : mb = m d := Option.some.inj he; omega))).mono (Nat.zero_le _))
    · rw [updP_other hq]
      have hF := putF_old hq hz
      by_cases hqd : q = d
      · subst hqd
        have e1 : kidsF (putF F (q ++ [e]) x) (updP a (q ++ [e]) g) q = upd (kidsF F a q) e (some g) := by
          funext f
          unfold kidsF upd
          by_cases hf : f = e
          · subst hf; rw [if_pos rfl, putF_same, updP_same]; rfl
          · have hne : q ++ [f] ≠ q ++ [e] := fun he => hf (by have := (List.append_inj' he rfl).2; simpa using this)
            rw [if_neg hf, updP_other hne, putF_off]
            intro hp
            rcases prefix_snoc hp with h3 | h3
            · exact snoc_notpre q e h3
            · exact hne h3.symm
        rw [e1]; exact hup
      · have hold := h.dir q z hF hzk
        rw [kidsSame q z hqd hq hz]
        have hne : m q ≠ m d := fun he => hqd (h.injm _ _ (isDirF_iff.2 ⟨z, hF, hzk⟩) hd he)
        exact (mapStay _ _ _ hne hold.lt hold).mono (Nat.le_succ _)
  · intro q z hz
    by_cases hq : q = d ++ [e]
    · subst hq
      rw [putF_same] at hz
      obtain rfl := Option.some.inj hz
      rw [updP_same, updP_same]
      refine ⟨by omega, fun hzk => ?_⟩
      obtain ⟨hm1, hm2⟩ := hmb hzk
      cases hdir : isDirF F (d ++ [e]) with
      | true =>
        obtain ⟨y2, hy2, hk2⟩ := isDirF_iff.1 hdir
        rw [hm1 hdir]; exact (h.base _ _ hy2).2 hk2
      | false => have := (hm2 hdir).1; omega
    · rw [updP_other hq, updP_other hq]; exact h.base q z (putF_old hq hz)
  · have key : ∀ q z, q ≠ d ++ [e] → putF F (d ++ [e]) x q = some z → a q < w.heap.size := fun q z hq hz => (h.lt q z (putF_old hq hz)).1
    intro p q hp hq hpq
    obtain ⟨zp, hzp⟩ := Option.isSome_iff_exists.1 hp
    obtain ⟨zq, hzq⟩ := Option.isSome_iff_exists.1 hq
    by_cases e1 : p = d ++ [e]
    · by_cases e2 : q = d ++ [e]
      · rw [e1, e2]
      · subst e1
        rw [updP_same, updP_other e2] at hpq
        have := key q zq e2 hzq; omega
    · by_cases e2 : q = d ++ [e]
      · subst e2
        rw [updP_same, updP_other e1] at hpq
        have := key p zp e1 hzp; omega
      · rw [updP_other e1, updP_other e2] at hpq
        exact h.inj p q (by rw [putF_old e1 hzp]; rfl) (by rw [putF_old e2 hzq]; rfl) hpq
  · have dirOld : ∀ q, q ≠ d ++ [e] → isDirF (putF F (d ++ [e]) x) q = true → isDirF F q = true := by
      intro q hq hdq
      obtain ⟨z, hz, hzk⟩ := isDirF_iff.1 hdq
      exact isDirF_iff.2 ⟨z, putF_old hq hz, hzk⟩
    have dirNew : isDirF (putF F (d ++ [e]) x) (d ++ [e]) = true → x.kind = 1 := by
      intro hdq
      obtain ⟨z, hz, hzk⟩ := isDirF_iff.1 hdq
      rw [putF_same] at hz
      obtain rfl := Option.some.inj hz
      exact hzk
    have lt : ∀ q, isDirF F q = true → m q < w.heap.size := by
      intro q hdq
      obtain ⟨z, hz, hzk⟩ := isDirF_iff.1 hdq
      exact (h.lt q z hz).2 hzk
    have key : ∀ q, q ≠ d ++ [e] → isDirF (putF F (d ++ [e]) x) (d ++ [e]) = true → isDirF (putF F (d ++ [e]) x) q = true → mb = m q → False := by
      intro q hq hdn hdq he
      obtain ⟨hm1, hm2⟩ := hmb (dirNew hdn)
      have hq2 := dirOld q hq hdq
      cases hdir : isDirF F (d ++ [e]) with
      | true => rw [hm1 hdir] at he; exact hq (h.injm _ _ hdir hq2 he).symm
      | false => have := (hm2 hdir).1; have := lt q hq2; omega
    intro p q hp hq hpq
    by_cases e1 : p = d ++ [e]
    · by_cases e2 : q = d ++ [e]
      · rw [e1, e2]
      · subst e1
        rw [updP_same, updP_other e2] at hpq
        exact absurd hpq (fun he => key q e2 hp hq he)
    · by_cases e2 : q = d ++ [e]
      · subst e2
        rw [updP_same, updP_other e1] at hpq
        exact absurd hpq.symm (fun he => key p e1 hq hp he)
      · rw [updP_other e1, updP_other e2] at hpq
        exact h.injm p q (dirOld p e1 hp) (dirOld q e2 hq) hpq
end Go.Proofs.YtpkabccinhfmbaaGreatDoor
namespace Go.Proofs.YtpkabccinhfmbaaGreatDoor
open Go.RowKit

theorem TreeAt.stay {w w2 : World} {B N : Nat} {a m : Pth → Nat} {F : Forest} (h : TreeAt w B N a m F) (d : Pth) (hd : isDirF F d = true) (h2 : w.grownBy w2 (some (m d))) :
    (∀ (k : Nat) (c : Array Value) (t : TypeId) (f : Nat × Nat), w.heap[k]? = some (Obj.cells c t f) → w2.heap[k]? = some (Obj.cells c t f)) ∧ (∀ (k n : Nat) (f : List UInt8 → Option Nat), k ≠ m d → MapIs w k n f → MapIs w2 k n f) := by
  obtain ⟨y, hy, hk⟩ := isDirF_iff.1 hd
  have hmd := h.dir d y hy hk
  refine ⟨fun k c t f hkk => ?_, fun k n f hne hm => ?_⟩
  · refine (h2.block k (Array.getElem?_eq_some_iff.1 hkk).1 ?_).trans hkk
    intro he
    have he2 : k = m d := Option.some.inj he
    obtain ⟨D, ⟨es, clock, hm2, _⟩, _⟩ := hmd
    rw [he2, hm2] at hkk; cases hkk
  · exact hm.block (h2.block k hm.lt (fun he => hne (Option.some.inj he)))
/-- a tree with less in it -/
theorem TreeAt.less {w w2 : World} {B N : Nat} {a m : Pth → Nat} {F G : Forest} (h : TreeAt w B N a m F) (d : Pth) (hd : isDirF F d = true) (h2 : w.grownBy w2 (some (m d))) (hG : IsTree G) (hsub : ∀ q z, G q = some z → F q = some z)
    (hmap : MapIs w2 (m d) N (kidsF G a d)) (hsame : ∀ q z, q ≠ d → G q = some z → kidsF G a q = kidsF F a q) : TreeAt w2 B N a m G := by
  obtain ⟨s1, s2⟩ := h.stay d hd h2
  refine ⟨hG, fun q z hz => s1 _ _ _ _ (h.node q z (hsub q z hz)), fun q z hz hzk => ?_, fun q z hz => h.base q z (hsub q z hz), fun p q hp hq => ?_, fun p q hp hq => ?_⟩
  · by_cases hq : q = d
    · subst hq; exact hmap
    · rw [hsame q z hq hz]
      have hF := hsub q z hz
      exact s2 _ _ _ (fun he => hq (h.injm _ _ (isDirF_iff.2 ⟨z, hF, hzk⟩) hd he)) (h.dir q z hF hzk)
  · obtain ⟨zp, hzp⟩ := Option.isSome_iff_exists.1 hp
    obtain ⟨zq, hzq⟩ := Option.isSome_iff_exists.1 hq
    exact h.inj p q (by rw [hsub _ _ hzp]; rfl) (by rw [hsub _ _ hzq]; rfl)
  · obtain ⟨zp, hzp, hkp⟩ := isDirF_iff.1 hp
    obtain ⟨zq, hzq, hkq⟩ := isDirF_iff.1 hq
    exact h.injm p q (isDirF_iff.2 ⟨zp, hsub _ _ hzp, hkp⟩) (isDirF_iff.2 ⟨zq, hsub _ _ hzq, hkq⟩)
theorem cutF_sub {F : Forest} {p q : Pth} {z : Nd} (h : cutF F p q = some z) : F q = some z ∧ ¬ p <+: q := by
  unfold cutF at h
  split at h
  · cases h
  · rename_i hp; exact ⟨h, hp⟩
theorem cutF_off {F : Forest} {p q : Pth} (h : ¬ p <+: q) : cutF F p q = F q := by unfold cutF; rw [if_neg h]
theorem cutF_on {F : Forest} {p q : Pth} (h : p <+: q) : cutF F p q = none := by unfold cutF; rw [if_pos h]
theorem TreeAt.cut {w w2 : World} {B N : Nat} {a m : Pth → Nat} {F : Forest} (h : TreeAt w B N a m F) (d : Pth) (e : List UInt8) (hd : isDirF F d = true)
    (hdel : MapIs w2 (m d) N (upd (kidsF F a d) e none)) (h2 : w.grownBy w2 (some (m d))) : TreeAt w2 B N a m (cutF F (d ++ [e])) := by
  refine h.less d hd h2 (cutF_tree h.tree _ (by simp)) (fun q z hz => (cutF_sub hz).1) ?_ ?_
  · have e1 : kidsF (cutF F (d ++ [e])) a d = upd (kidsF F a d) e none := by
      funext f
      unfold kidsF upd
      by_cases hf : f = e
      · subst hf; rw [if_pos rfl, cutF_on List.prefix_rfl]; rfl
      · rw [if_neg hf, cutF_off]
        intro hp
        rcases prefix_snoc hp with h3 | h3
        · exact snoc_notpre d e h3
        · exact hf (by have := (List.append_inj' h3 rfl).2; simpa using this.symm)
    rw [e1]; exact hdel
  · intro q z hq hz
    have hnp := (cutF_sub hz).2
    funext f
    unfold kidsF
    rw [cutF_off]
    intro hp
    rcases prefix_snoc hp with h3 | h3
    · exact hnp h3
    · exact hq (List.append_inj' h3 rfl).1.symm
theorem clearF_sub {F : Forest} {p q : Pth} {z : Nd} (h : clearF F p q = some z) : F q = some z ∧ ¬ (p <+: q ∧ q ≠ p) := by
  unfold clearF at h
  split at h
  · cases h
  · rename_i hp; exact ⟨h, hp⟩
theorem TreeAt.clear {w w2 : World} {B N : Nat} {a m : Pth → Nat} {F : Forest} (h : TreeAt w B N a m F) (d : Pth) (hd : isDirF F d = true)
    (hclr : MapIs w2 (m d) 0 (fun _ => none)) (h2 : w.grownBy w2 (some (m d))) : TreeAt w2 B N a m (clearF F d) := by
  refine h.less d hd h2 (clearF_tree h.tree _) (fun q z hz => (clearF_sub hz).1) ?_ ?_
  · have e1 : kidsF (clearF F d) a d = fun _ => none := by
      funext f
      unfold kidsF clearF
      rw [if_pos (show d <+: d ++ [f] ∧ d ++ [f] ≠ d from ⟨List.prefix_append _ _, snoc_ne d f⟩)]; rfl
    rw [e1]; exact hclr.mono (Nat.zero_le _)
  · intro q z hq hz
    have hnp := (clearF_sub hz).2
    funext f
    have e3 : clearF F d (q ++ [f]) = F (q ++ [f]) := by
      unfold clearF
      rw [if_neg]
      rintro ⟨hp, hne⟩
      rcases prefix_snoc hp with h3 | h3
      · exact hnp ⟨h3, hq⟩
      · exact hne h3.symm
    unfold kidsF
    rw [e3]
end Go.Proofs.YtpkabccinhfmbaaGreatDoor
namespace Go.Proofs.YtpkabccinhfmbaaGreatDoor
open Go.RowKit

theorem Cell4.low {W W' : World} {g n : Nat} {c : Ent} (h : Cell4 W g c) (hb : Below n W W') (hg : g < n) : Cell4 W' g c := by
  obtain ⟨h0, h1, h2, h3⟩ := h
  exact ⟨(hb.cell (p := ⟨g, 0, none⟩) hg).trans h0, (hb.cell (p := ⟨g, 1, none⟩) hg).trans h1, (hb.cell (p := ⟨g, 2, none⟩) hg).trans h2, (hb.cell (p := ⟨g, 3, none⟩) hg).trans h3⟩
/-- one entry of a tree, while another is put -/
def putStep (e : Ent) (both : Bool) (s : List Ent × Bool) (x : Ent) : List Ent × Bool :=
  let s1 := if orderL (partsB e.path) (partsB x.path) < 0 ∧ s.2 = false then (s.1 ++ [e], true) else s
  if orderL (partsB e.path) (partsB x.path) = 0 ∨ (belowB x.path e.path = true ∧ both = false) then s1 else (s1.1 ++ [x], s1.2)
def putGo (e : Ent) (both : Bool) (l : List Ent) : List Ent × Bool := l.foldl (putStep e both) ([], false)
def putEnd (e : Ent) (s : List Ent × Bool) : List Ent := if s.2 then s.1 else s.1 ++ [e]
def bothB (l : List Ent) (e : Ent) : Bool := decide (kindL l e.path = 1) && decide (e.kind = 1)
def putL (l : List Ent) (e : Ent) : List Ent := putEnd e (putGo e (bothB l e) l)
theorem putGo_take {l : List Ent} {e c : Ent} {both : Bool} {k : Nat} (h : l[k]? = some c) : putGo e both (l.take (k + 1)) = putStep e both (putGo e both (l.take k)) c := by
  obtain ⟨hk, rfl⟩ := List.getElem?_eq_some_iff.1 h
  rw [List.take_succ_eq_append_getElem hk, putGo, List.foldl_append]; rfl
theorem putStep_len (e : Ent) (both : Bool) (s : List Ent × Bool) (x : Ent) : (putStep e both s x).1.length ≤ s.1.length + 2 := by
  unfold putStep
  by_cases h1 : orderL (partsB e.path) (partsB x.path) < 0 ∧ s.2 = false
  · simp only [if_pos h1]; split <;> simp
  · simp only [if_neg h1]; split <;> simp
theorem putGo_len (e : Ent) (both : Bool) (l : List Ent) : (putGo e both l).1.length ≤ 2 * l.length := by
  have : ∀ (l : List Ent) (s : List Ent × Bool), (l.foldl (putStep e both) s).1.length ≤ s.1.length + 2 * l.length := by
    intro l
    induction l with
    | nil => intro s; simp
    | cons x r ih => intro s; rw [List.foldl_cons]; have := ih (putStep e both s x); have := putStep_len e both s x; simp only [List.length_cons]; omega
  have := this l ([], false)
  unfold putGo
  simpa using this
theorem putStep_eq (e x : Ent) (both d : Bool) (out : List Ent) (r : List Ent × Bool)
    (h : r = (let s1 := if orderL (partsB e.path) (partsB x.path) < 0 ∧ d = false then (out ++ [e], true) else (out, d)
      if orderL (partsB e.path) (partsB x.path) = 0 ∨ (belowB x.path e.path = true ∧ both = false) then s1 else (s1.1 ++ [x], s1.2))) : putStep e both (out, d) x = r := h.symm
end Go.Proofs.YtpkabccinhfmbaaGreatDoor
namespace Go.Proofs.YtpkabccinhfmbaaGreatDoor

/-- a text up to a nought -/
def fldB (b : List UInt8) : List UInt8 := b.takeWhile fun c => c != 0
theorem fld_app {s : List UInt8} (h : ∀ c ∈ s, c ≠ 0) (r : List UInt8) : fldB (s ++ 0 :: r) = s := by
  unfold fldB
  rw [List.takeWhile_append_of_pos (by simpa using h)]
  simp
theorem fld_all {s : List UInt8} (h : ∀ c ∈ s, c ≠ 0) : fldB s = s := by
  have := List.takeWhile_append_of_pos (p := fun c : UInt8 => c != 0) (l₁ := s) (l₂ := []) (by simpa using h)
  simpa [fldB] using this
theorem fld_fil {s : List UInt8} {n : Nat} (h : ∀ c ∈ s, c ≠ 0) (hl : s.length ≤ n) : fldB (filB s n) = s := by
  unfold filB
  cases hk : n - s.length with
  | zero => rw [List.replicate_zero, List.append_nil]; exact fld_all h
  | succ k => rw [List.replicate_succ]; exact fld_app h _
/-- the value of octal digits -/
def valB (s : List UInt8) : Nat := s.foldl (fun n c => 8 * n + (c.toNat - 48)) 0
theorem val_snoc (s : List UInt8) (c : UInt8) : valB (s ++ [c]) = 8 * valB s + (c.toNat - 48) := by unfold valB; rw [List.foldl_append]; rfl
theorem dig_val {k : Nat} (h : k < 8) : (UInt8.ofNat (48 + k)).toNat = 48 + k := by
  rw [UInt8.toNat_ofNat']
  omega
theorem val_oct (n : Nat) : valB (octB n) = n := by
  induction n using Nat.strongRecOn with
  | ind n ih =>
    by_cases h : n < 8
    · rw [octB_small h]
      show 8 * 0 + ((UInt8.ofNat (48 + n)).toNat - 48) = n
      rw [dig_val h]; omega
    · rw [octB_big h, val_snoc, ih (n / 8) (by omega), dig_val (Nat.mod_lt _ (by omega))]
      omega
theorem val_zeros (k : Nat) (s : List UInt8) : valB (List.replicate k 48 ++ s) = valB s := by
  have h0 : ∀ k, (List.replicate k (48 : UInt8)).foldl (fun n c => 8 * n + (c.toNat - 48)) 0 = 0 := by
    intro k
    induction k with
    | zero => rfl
    | succ k ih => rw [List.replicate_succ]; exact ih
  unfold valB
  rw [List.foldl_append, h0]
theorem oct_dig (n : Nat) : ∀ c ∈ octB n, 48 ≤ c.toNat ∧ c.toNat ≤ 55 := by
  induction n using Nat.strongRecOn with
  | ind n ih =>
    intro c hc
    by_cases h : n < 8
    · rw [octB_small h, List.mem_singleton] at hc
      rw [hc, dig_val h]; omega
    · rw [octB_big h] at hc
      rcases List.mem_append.1 hc with hc | hc
      · exact ih (n / 8) (by omega) c hc
      · rw [List.mem_singleton.1 hc, dig_val (Nat.mod_lt _ (by omega))]; have := Nat.mod_lt n (show 0 < 8 by omega); omega
/-- a number in n octal digits -/
def nmB (v n : Nat) : List UInt8 := List.replicate (n - (octB v).length) 48 ++ octB v
theorem nm_dig (v n : Nat) : ∀ c ∈ nmB v n, 48 ≤ c.toNat ∧ c.toNat ≤ 55 := by
  intro c hc
  rcases List.mem_append.1 hc with hc | hc
  · rw [(List.mem_replicate.1 hc).2]; decide
  · exact oct_dig v c hc
theorem nm_val (v n : Nat) : valB (nmB v n) = v := by unfold nmB; rw [val_zeros, val_oct]
theorem nm_len {v n : Nat} (h : (octB v).length ≤ n) : (nmB v n).length = n := by simp [nmB]; omega
theorem fld_dg (v n : Nat) : fldB (digB v n) = nmB v n := by
  unfold digB
  exact fld_app (s := nmB v n) (fun c hc e => by have := (nm_dig v n c hc).1; rw [e] at this; revert this; decide) []
/-- a header -/
def hdrB (c : Ent) : List UInt8 := headB c ++ digB (totB c) 6 ++ [32] ++ tailB c
theorem ent_hdr (c : Ent) : entB c = hdrB c ++ (dataB c ++ filB [] ((512 - (dataB c).length % 512) % 512)) := by
  unfold entB hdrB; simp only [List.append_assoc]
/-- a text without its last slash -/
def trmB (s : List UInt8) : List UInt8 := if s.getLast? = some 47 then s.dropLast else s
/-- what a header tells: the change, how many bytes of data -/
def gsB (name md sz link : List UInt8) (flag : UInt8) : Ent × Nat :=
  (if flag = 53 then ⟨trmB name, 1, valB md, []⟩
   else if flag = 50 then ⟨name, 3, 0, link⟩
   else if (upB name).2 = [46, 119, 104, 46, 46, 119, 104, 46, 46, 111, 112, 113] then ⟨(upB name).1, 5, valB md, []⟩
   else if [46, 119, 104, 46].isPrefixOf (upB name).2 then ⟨inB (upB name).1 ((upB name).2.drop 4), 4, valB md, []⟩
   else ⟨name, 2, valB md, []⟩, valB sz)
/-- a change but for its data -/
def bareB (c : Ent) : Ent := ⟨c.path, c.kind, c.mode, if c.kind = 3 then c.data else []⟩
theorem up_join {es : List (List UInt8)} (h : ∀ e ∈ es, e ≠ [] ∧ (47 : UInt8) ∉ e) (x : List UInt8) (hx : x ≠ [] ∧ (47 : UInt8) ∉ x) : upB (joinB (es ++ [x])) = (joinB es, x) := by
  unfold upB
  rw [parts_join2 (fun e he => by
    rcases List.mem_append.1 he with he | he
    · exact h e he
    · rw [List.mem_singleton.1 he]; exact hx)]
  simp
theorem elem_wh {e : List UInt8} (h : elementB e = true) : [46, 119, 104, 46].isPrefixOf e = false := by
  unfold elementB at h
  simp only [Bool.and_eq_true, Bool.not_eq_true'] at h
  exact h.1.2
theorem fit_elems {c : Ent} (h : Fit c) : ∀ e ∈ partsB c.path, elementB e = true := (pathB_ok h.1).2
theorem fit_parts {c : Ent} (h : Fit c) : ∀ e ∈ partsB c.path, e ≠ [] ∧ (47 : UInt8) ∉ e := fun e he => by
  obtain ⟨h1, _, h3⟩ := elementB_ok (fit_elems h e he); exact ⟨h1, h3⟩
theorem parts_snoc {p : List UInt8} (h : p ≠ []) : ∃ es x, partsB p = es ++ [x] := ⟨_, _, (List.dropLast_concat_getLast (partsB_ne h)).symm⟩
theorem gs_name {c : Ent} (h : Fit c) (md sz : List UInt8) : gsB (namB c) md sz (linkB c) (flagB c) = (⟨c.path, c.kind, if c.kind = 3 then 0 else valB md, if c.kind = 3 then c.data else []⟩, valB sz) := by
  have hpar := fit_parts h
  have hel := fit_elems h
  have hk : c.kind = 1 ∨ c.kind = 2 ∨ c.kind = 3 ∨ c.kind = 4 ∨ c.kind = 5 := by
    rcases h.2.1 with hg | hm
    · unfold goodB at hg
      by_cases h1 : c.kind = 1
      · exact .inl h1
      · by_cases h2 : c.kind = 2
        · exact .inr (.inl h2)
        · by_cases h3 : c.kind = 3
          · exact .inr (.inr (.inl h3))
          · rw [if_neg h1, if_neg h2, if_neg h3] at hg; cases hg
    · unfold markB at hm
      simp at hm
      omega
  have hne : c.kind ≠ 5 → c.path ≠ [] := fun h5 e => h5 (h.2.2 e)
  obtain ⟨p, k, m, d⟩ := c
  simp only at hpar hel hk hne
  rcases hk with rfl | rfl | rfl | rfl | rfl
  · have : namB ⟨p, 1, m, d⟩ = p ++ [47] := rfl
    rw [this]
    show (⟨trmB (p ++ [47]), 1, (valB md : Int), []⟩, valB sz) = ((⟨p, 1, (valB md : Int), []⟩ : Ent), valB sz)
    simp [trmB]
  · obtain ⟨es, x, hx⟩ := parts_snoc (hne (by decide))
    have hp : p = joinB (es ++ [x]) := by rw [← hx, joinB_parts]
    have hup : upB p = (joinB es, x) := by
      rw [hp]
      exact up_join (fun e he => hpar e (by rw [hx]; exact List.mem_append_left _ he)) x (hpar x (by rw [hx]; simp))
    have hw := elem_wh (hel x (by rw [hx]; simp))
    have hnm : namB ⟨p, 2, m, d⟩ = p := rfl
    rw [hnm]
    show ((if (upB p).2 = [46, 119, 104, 46, 46, 119, 104, 46, 46, 111, 112, 113] then ⟨(upB p).1, 5, valB md, []⟩ else if [46, 119, 104, 46].isPrefixOf (upB p).2 then ⟨inB (upB p).1 ((upB p).2.drop 4), 4, valB md, []⟩ else ⟨p, 2, valB md, []⟩), valB sz) = ((⟨p, 2, (valB md : Int), []⟩ : Ent), valB sz)
    rw [hup]
    simp only
    rw [if_neg (by intro e; rw [e] at hw; revert hw; decide), if_neg (by rw [hw]; decide)]
  · have hnm : namB ⟨p, 3, m, d⟩ = p := rfl
    rw [hnm]
    rfl
  · obtain ⟨es, x, hx⟩ := parts_snoc (hne (by decide))
    have hp : p = joinB (es ++ [x]) := by rw [← hx, joinB_parts]
    have hes : ∀ e ∈ es, e ≠ [] ∧ (47 : UInt8) ∉ e := fun e he => hpar e (by rw [hx]; exact List.mem_append_left _ he)
    have hxx := hpar x (by rw [hx]; simp)
    have hup : upB p = (joinB es, x) := by rw [hp]; exact up_join hes x hxx
    have hw := elem_wh (hel x (by rw [hx]; simp))
    have hnm : namB ⟨p, 4, m, d⟩ = inB (upB p).1 ([46, 119, 104, 46] ++ (upB p).2) := rfl
    have hy : [46, 119, 104, 46] ++ x ≠ [] ∧ (47 : UInt8) ∉ [46, 119, 104, 46] ++ x := ⟨by simp, by rw [List.mem_append]; rintro (h | h); revert h; decide; exact hxx.2 h⟩
    have hnm2 : namB ⟨p, 4, m, d⟩ = joinB (es ++ [[46, 119, 104, 46] ++ x]) := by
      rw [hnm, hup]; exact inB_join (fun e he => (hes e he).1) hy.1
    have hun : upB (namB ⟨p, 4, m, d⟩) = (joinB es, [46, 119, 104, 46] ++ x) := by rw [hnm2]; exact up_join hes _ hy
    generalize namB ⟨p, 4, m, d⟩ = nb at hun
    show ((if (upB nb).2 = [46, 119, 104, 46, 46, 119, 104, 46, 46, 111, 112, 113] then ⟨(upB nb).1, 5, valB md, []⟩ else if [46, 119, 104, 46].isPrefixOf (upB nb).2 then ⟨inB (upB nb).1 ((upB nb).2.drop 4), 4, valB md, []⟩ else ⟨nb, 2, valB md, []⟩), valB sz) = ((⟨p, 4, (valB md : Int), []⟩ : Ent), valB sz)
    rw [hun]
    simp only
    rw [if_neg (by
      intro e
      have h2 : x = [46, 119, 104, 46, 46, 111, 112, 113] := by simpa using e
      rw [h2] at hw; revert hw; decide), if_pos (by simp)]
    rw [show ((([46, 119, 104, 46] : List UInt8) ++ x).drop 4) = x from rfl, inB_join (fun e he => (hes e he).1) hxx.1, ← hp]
  · have hy : ([46, 119, 104, 46, 46, 119, 104, 46, 46, 111, 112, 113] : List UInt8) ≠ [] ∧ (47 : UInt8) ∉ ([46, 119, 104, 46, 46, 119, 104, 46, 46, 111, 112, 113] : List UInt8) := by decide
    have hnm : namB ⟨p, 5, m, d⟩ = inB p [46, 119, 104, 46, 46, 119, 104, 46, 46, 111, 112, 113] := rfl
    have hnm2 : namB ⟨p, 5, m, d⟩ = joinB (partsB p ++ [[46, 119, 104, 46, 46, 119, 104, 46, 46, 111, 112, 113]]) := by
      rw [hnm]
      have := inB_join (l := partsB p) (x := [46, 119, 104, 46, 46, 119, 104, 46, 46, 111, 112, 113]) (fun e he => (hpar e he).1) hy.1
      rw [joinB_parts] at this; exact this
    have hun : upB (namB ⟨p, 5, m, d⟩) = (p, [46, 119, 104, 46, 46, 119, 104, 46, 46, 111, 112, 113]) := by
      rw [hnm2, up_join hpar _ hy, joinB_parts]
    generalize namB ⟨p, 5, m, d⟩ = nb at hun
    show ((if (upB nb).2 = [46, 119, 104, 46, 46, 119, 104, 46, 46, 111, 112, 113] then ⟨(upB nb).1, 5, valB md, []⟩ else if [46, 119, 104, 46].isPrefixOf (upB nb).2 then ⟨inB (upB nb).1 ((upB nb).2.drop 4), 4, valB md, []⟩ else ⟨nb, 2, valB md, []⟩), valB sz) = ((⟨p, 5, (valB md : Int), []⟩ : Ent), valB sz)
    rw [hun]
    simp only
    rw [if_pos trivial]
end Go.Proofs.YtpkabccinhfmbaaGreatDoor
namespace Go.Proofs.YtpkabccinhfmbaaGreatDoor

theorem last_shut (pre : List Ent) : (shutOf pre = none ∧ ∀ z ∈ pre, shuts z = false) ∨ (∃ (m : Nat) (y : Ent), pre[m]? = some y ∧ shuts y = true ∧ shutOf pre = some (y.path ++ [47]) ∧ ∀ (j : Nat) (z : Ent), m < j → pre[j]? = some z → shuts z = false) := by
  induction hn : pre.length generalizing pre with
  | zero => rw [List.eq_nil_of_length_eq_zero hn]; exact .inl ⟨rfl, fun z h => by cases h⟩
  | succ n ih =>
    rcases List.eq_nil_or_concat pre with rfl | ⟨p, c, rfl⟩
    · simp at hn
    rw [List.concat_eq_append] at hn ⊢
    have hpl : p.length = n := by simpa using hn
    rw [shutOf_snoc]
    cases hc : shuts c
    · simp only [Bool.false_eq_true, if_false]
      rcases ih p hpl with ⟨h1, h2⟩ | ⟨m, y, h1, h2, h3, h4⟩
      · refine .inl ⟨h1, fun z hz => ?_⟩
        rcases List.mem_append.1 hz with hz | hz
        · exact h2 z hz
        · rw [List.mem_singleton] at hz; subst hz; exact hc
      · have hm := (List.getElem?_eq_some_iff.1 h1).1
        refine .inr ⟨m, y, by rw [List.getElem?_append_left hm]; exact h1, h2, h3, fun j z hj hz => ?_⟩
        rcases Nat.lt_or_ge j p.length with h | h
        · rw [List.getElem?_append_left h] at hz; exact h4 j z hj hz
        · rw [List.getElem?_append_right h] at hz
          have := (List.getElem?_eq_some_iff.1 hz).1
          simp only [List.length_singleton] at this
          obtain e : j - p.length = 0 := by omega
          rw [e] at hz
          simp at hz; subst hz; exact hc
    · refine .inr ⟨p.length, c, by simp, hc, by simp, fun j z hj hz => ?_⟩
      have := (List.getElem?_eq_some_iff.1 hz).1
      simp at this; omega
theorem shuts_iff {x : Ent} : shuts x = true ↔ x.kind ≠ 1 ∧ x.kind ≠ 5 := by simp [shuts]

/-- what no bar ahead tells of one change -/
theorem bar_facts {l : List Ent} {j : Nat} {c : Ent} (h : barR l j = false) (hc : l[j]? = some c) : shapeR j c = true ∧ (∀ x, 0 < j → l[j - 1]? = some x → nextR x c = true) ∧ shutR (l.take j) c = false := by
  refine ⟨?_, ?_, ?_⟩
  · cases hs : shapeR j c
    · rw [barR_shape hc hs] at h; cases h
    · rfl
  · intro x h0 hx
    cases hn : nextR x c
    · rw [barR_next hc h0 hx hn] at h; cases h
    · rfl
  · cases hs : shutR (l.take j) c
    · rfl
    · rw [barR_shut hc hs] at h; cases h
theorem next_order {x c : Ent} (h : nextR x c = true) : orderL (partsB x.path) (partsB c.path) < 0 ∨ (partsB x.path = partsB c.path ∧ x.kind = 1) := by
  unfold nextR at h
  rcases Int.lt_or_le (orderL (partsB x.path) (partsB c.path)) 0 with h1 | h1
  · exact .inl h1
  · rw [decide_eq_true h1] at h
    simp only [Bool.true_and, Bool.not_not, Bool.and_eq_true, decide_eq_true_eq] at h
    exact .inr ⟨orderL_eq h.1.1, h.1.2⟩
theorem shape_path {j : Nat} {c : Ent} (h : shapeR j c = true) (h5 : c.kind ≠ 5) : c.path ≠ [] := by
  unfold shapeR at h
  intro e
  rw [e, decide_eq_false h5] at h
  simp at h
/-- from a change that is no directory on all stand behind it -/
theorem chain {l : List Ent} {k i j : Nat} {x y : Ent} (hn : ∀ (m : Nat) (a b : Ent), m < k → l[m]? = some a → l[m + 1]? = some b → nextR a b = true) (hij : i < j) (hj : j ≤ k) (hx : l[i]? = some x) (hy : l[j]? = some y) (h1 : x.kind ≠ 1) : orderL (partsB x.path) (partsB y.path) < 0 := by
  induction j generalizing y with
  | zero => omega
  | succ j ih =>
    have hjl := (List.getElem?_eq_some_iff.1 hy).1
    obtain ⟨z, hz⟩ : ∃ z, l[j]? = some z := ⟨l[j]'(by omega), List.getElem?_eq_getElem _⟩
    have hzn := next_order (hn j z y (by omega) hz hy)
    rcases Nat.lt_or_ge i j with h | h
    · have := ih h (by omega) hz
      rcases hzn with h2 | ⟨h2, _⟩
      · exact orderL_trans this h2
      · rw [← h2]; exact this
    · obtain rfl : i = j := by omega
      rw [hx] at hz; cases hz
      rcases hzn with h2 | ⟨_, h2⟩
      · exact h2
      · exact absurd h2 h1

theorem shut_same {l : List Ent} {k : Nat} {c : Ent} (hb : ∀ j, j < k → barR l j = false) (hc : l[k]? = some c) (hnx : ∀ x, 0 < k → l[k - 1]? = some x → nextR x c = true) : shutP (shutOf (l.take k)) c = shutR (l.take k) c := by
  have hkl := (List.getElem?_eq_some_iff.1 hc).1
  have hn : ∀ (m : Nat) (a b : Ent), m < k → l[m]? = some a → l[m + 1]? = some b → nextR a b = true := by
    intro m a b hm ha hbb
    rcases Nat.lt_or_ge (m + 1) k with h | h
    · exact (bar_facts (hb (m + 1) h) hbb).2.1 a (by omega) ha
    · obtain rfl : m + 1 = k := by omega
      rw [hc] at hbb; cases hbb
      exact hnx a (by omega) ha
  have ht : ∀ (j : Nat) (z : Ent), (l.take k)[j]? = some z ↔ j < k ∧ l[j]? = some z := by
    intro j z
    rw [List.getElem?_take]
    by_cases h : j < k <;> simp [h]
  rcases last_shut (l.take k) with ⟨h1, h2⟩ | ⟨m, y, h1, h2, h3, h4⟩
  · rw [h1]
    refine (shutR_none (fun q x hq => ?_)).symm
    have := h2 x (List.mem_of_getElem? hq)
    by_cases hk1 : x.kind = 1
    · exact .inr (.inl hk1)
    · by_cases hk5 : x.kind = 5
      · exact .inr (.inr hk5)
      · rw [shuts_iff.2 ⟨hk1, hk5⟩] at this; cases this
  · obtain ⟨hm, hy⟩ := (ht m y).1 h1
    obtain ⟨hy1, hy5⟩ := shuts_iff.1 h2
    have fy := bar_facts (hb m hm) hy
    have hyp := shape_path fy.1 hy5
    rw [h3]
    show (y.path ++ [47]).isPrefixOf c.path = _
    cases hp : (y.path ++ [47]).isPrefixOf c.path
    · refine (shutR_none (fun q x hq => ?_)).symm
      obtain ⟨hqk, hx⟩ := (ht q x).1 hq
      by_cases hk1 : x.kind = 1
      · exact .inr (.inl hk1)
      by_cases hk5 : x.kind = 5
      · exact .inr (.inr hk5)
      left
      have fx := bar_facts (hb q hqk) hx
      have hxp := shape_path fx.1 hk5
      cases hbl : belowB c.path x.path
      · rfl
      · exfalso
        have hpre : (x.path ++ [47]).isPrefixOf c.path = true := by
          unfold belowB at hbl; rw [if_neg hxp] at hbl; exact hbl
        rcases Nat.lt_trichotomy q m with h | h | h
        · have o1 := chain hn h (by omega) hx hy hk1
          have o2 := chain hn hm (Nat.le_refl k) hy hc hy1
          have hxy := orderL_between (below_parts hxp hpre) o1 o2
          have hne : partsB x.path ≠ partsB y.path := fun e => by rw [e, orderL_refl] at o1; omega
          have hbx : belowB y.path x.path = true := by
            unfold belowB; rw [if_neg hxp]; exact parts_below hxp hxy hne
          have := shutR_at (pre := l.take m) (q := q) (by rw [List.getElem?_take, if_pos h]; exact hx) hbx hk1 hk5
          rw [fy.2.2] at this; cases this
        · subst h
          rw [hx] at hy; cases hy
          rw [hp] at hpre; cases hpre
        · have := h4 q x h hq
          rw [shuts_iff.2 ⟨hk1, hk5⟩] at this; cases this
    · refine (shutR_at h1 ?_ hy1 hy5).symm
      unfold belowB; rw [if_neg hyp]; exact hp
theorem bar_same {l : List Ent} {k : Nat} (hk : k < l.length) (hb : ∀ j, j < k → barR l j = false) : barR l k = barP l k := by
  obtain ⟨c, hc⟩ : ∃ c, l[k]? = some c := ⟨l[k], List.getElem?_eq_getElem hk⟩
  have h80 : k ≤ 80 := by
    rcases Nat.lt_or_ge 80 k with h | h
    · have h1 := hb 80 h
      rw [barR_shape (c := l[80]'(by omega)) (List.getElem?_eq_getElem (by omega)) (by unfold shapeR; rfl)] at h1
      cases h1
    · exact h
  have eP : barP l k = (!(shapeP k c && (match l[k - 1]? with | some x => decide (k = 0) || nextP x c | none => true)) || shutP (shutOf (l.take k)) c) := by rw [barP, hc] <;> rfl
  rw [eP, shape_same h80]
  cases hs : shapeR k c
  · rw [barR_shape hc hs]; rfl
  · rcases Nat.eq_zero_or_pos k with h0 | h0
    · have e1 : (match l[k - 1]? with | some x => decide (k = 0) || nextP x c | none => true) = true := by
        rw [decide_eq_true h0]; cases l[k - 1]? <;> simp
      have e2 := shut_same hb hc (fun x h => by omega)
      rw [e1, e2]
      cases hh : shutR (l.take k) c
      · rw [barR_ok hc hs (.inl h0) hh]; rfl
      · rw [barR_shut hc hh]; rfl
    · obtain ⟨x, hx⟩ : ∃ x, l[k - 1]? = some x := ⟨l[k - 1]'(by omega), List.getElem?_eq_getElem _⟩
      rw [hx]
      show barR l k = (!(true && (decide (k = 0) || nextP x c)) || _)
      rw [next_same]
      cases hn : nextR x c
      · rw [barR_next hc h0 hx hn, decide_eq_false (by omega : ¬ k = 0)]; rfl
      · rw [shut_same hb hc (fun y _ hy => by rw [hx] at hy; cases hy; exact hn)]
        cases hh : shutR (l.take k) c
        · rw [barR_ok hc hs (.inr ⟨x, hx, hn⟩) hh]; simp
        · rw [barR_shut hc hh]; simp
theorem bars_same {l : List Ent} {r s : Int} (h : First (barR l) l.length r) (k : First (barP l) l.length s) : r = s :=
  h.uniq k (fun i hi hb _ => bar_same hi hb)
end Go.Proofs.YtpkabccinhfmbaaGreatDoor
namespace Go.Proofs.YtpkabccinhfmbaaGreatDoor

/-- the sum of a header's bytes but for its own field -/
def skB (b : List UInt8) : Nat → Nat
  | 0 => 0
  | k + 1 => skB b k + if k < 148 ∨ 155 < k then (b.getD k 0).toNat else 0
theorem skB_succ (b : List UInt8) (k : Nat) : skB b (k + 1) = skB b k + if k < 148 ∨ 155 < k then (b.getD k 0).toNat else 0 := rfl
theorem skB_le (b : List UInt8) (k : Nat) : skB b k ≤ 255 * k := by
  induction k with
  | zero => simp [skB]
  | succ k ih => rw [skB_succ]; have := (b.getD k 0).toNat_lt; split <;> omega
def atF : Nat → Nat
  | 0 => 100 | 1 => 108 | 2 => 116 | 3 => 124 | 4 => 136 | 5 => 329 | _ => 337
def toF : Nat → Nat
  | 0 => 108 | 1 => 116 | 2 => 124 | 3 => 136 | 4 => 148 | 5 => 337 | _ => 345
theorem atF_le (i : Nat) : atF i ≤ toF i ∧ toF i ≤ 345 := by
  match i with
  | 0 => exact ⟨by decide, by decide⟩
  | 1 => exact ⟨by decide, by decide⟩
  | 2 => exact ⟨by decide, by decide⟩
  | 3 => exact ⟨by decide, by decide⟩
  | 4 => exact ⟨by decide, by decide⟩
  | 5 => exact ⟨by decide, by decide⟩
  | n + 6 => exact ⟨(by decide : 337 ≤ 345), (by decide : 345 ≤ 345)⟩
/-- a field of digits -/
def FldB (s t : List UInt8) : Prop := s = t ++ [0] ∧ ∀ c ∈ t, 48 ≤ c.toNat ∧ c.toNat ≤ 55
structure Ust (b p l q : List UInt8) (n : Nat) (flag : UInt8) : Prop where
  hlen : b.length = 512
  name : b.take 100 = p ++ List.replicate (100 - p.length) 0
  link : (b.drop 157).take 100 = l ++ List.replicate (100 - l.length) 0
  pre : (b.drop 345).take 155 = q ++ List.replicate (155 - q.length) 0
  pnz : ∀ x ∈ p, x ≠ 0
  lnz : ∀ x ∈ l, x ≠ 0
  qnz : ∀ x ∈ q, x ≠ 0
  pl : 0 < p.length ∧ p.length ≤ 100
  ll : l.length ≤ 100
  ql : q.length ≤ 155
  rest : (b.drop 265).take 64 = List.replicate 64 0
  fin : b.drop 500 = List.replicate 12 0
  magic : (b.drop 257).take 8 = [117, 115, 116, 97, 114, 0, 48, 48]
  flds : ∀ (i : Nat) (h : i < 7), ∃ t, FldB ((b.drop (atF i)).take (toF i - atF i)) t
  uid : ∃ t, FldB ((b.drop 108).take 8) t ∧ valB t = 0
  gid : ∃ t, FldB ((b.drop 116).take 8) t ∧ valB t = 0
  time : ∃ t, FldB ((b.drop 136).take 12) t ∧ valB t = 0
  size : ∃ t, FldB ((b.drop 124).take 12) t ∧ valB t = n
  sum : ∃ t, FldB ((b.drop 148).take 7) t ∧ valB t = 256 + skB b 512
  nle : n ≤ 4096
  space : b[155]? = some 32
  isflag : b[156]? = some flag
  kind : (flag = 53 ∧ n = 0 ∧ l = [] ∧ b[p.length - 1]? = some 47) ∨ (flag = 50 ∧ n = 0 ∧ l ≠ []) ∨ (flag = 48 ∧ l = [])
  slash : q = [] ∨ (b[344 + q.length]? ≠ some 47 ∧ b[0]? ≠ some 47)
end Go.Proofs.YtpkabccinhfmbaaGreatDoor
