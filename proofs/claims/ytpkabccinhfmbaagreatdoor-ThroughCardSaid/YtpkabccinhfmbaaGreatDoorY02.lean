/-
  The program: a path's directory and last element.
  Plain words and the program: a path's directory and last element.
  Plain words: trees of raw numbers: the places, the directory that a path is in. No program in sight.
  The program's paths: each call computes its Lean word.
  The program's paths: parts, and what is a path.
  The program's paths and entries: tree order, parents, joins, what may be an entry.
  The program's paths in tree order: cmp.Compare at texts, slices.Compare, tree.Compare: the walks.
  The program: what stands at a path of a tree.
  The program: an entry laid into a tree.
  The program: the empty tree; what kind of thing stands at a path; something taken out of a tree.
  Plain words: bounds of an archive's parts; the entries laid one behind another. No program in sight.
  strings.Builder by Go's own text: a builder of one's own is written: a byte, a text; what it holds.
-/
import Derived.Lib.SplitLaws
import Derived.Deep.QuietTactic
import Derived.BigQuiet
import Derived.WalkSmall
import Derived.Lib.Builder
import Derived.Lib.AppendStr
import Derived.Laws.Externs
import Derived.Laws.BitsLemmas
import Derived.Test.YtpkabccinhfmbaaGreatDoorY00
import Derived.Test.YtpkabccinhfmbaaGreatDoorY01
import Derived.Test.YtpkabccinhfmbaaGreatDoorShelf
set_option linter.unusedVariables false
set_option linter.unusedSimpArgs false
namespace Go.Proofs.YtpkabccinhfmbaaGreatDoor
open Go.RowKit

theorem upB_none {p : List UInt8} (h0 : p ≠ []) (h : (47 : UInt8) ∉ p) : upB p = ([], p) := by
  unfold upB partsB
  rw [if_neg h0, cutB_last _ _ h]; rfl
theorem upB_cut (a b : List UInt8) (h : (47 : UInt8) ∉ b) : upB (a ++ 47 :: b) = (a, b) := by
  unfold upB partsB
  rw [if_neg (by simp), cutB_app, cutB_last _ _ h, List.dropLast_concat, joinB_cut]
  simp
theorem upB_at {p : List UInt8} {i : Nat} (hi : i < p.length) (h : p[i] = 47) (hb : ∀ j (hj : j < p.length), i < j → p[j] ≠ 47) : upB p = (p.take i, p.drop (i + 1)) := by
  have e : p = p.take i ++ 47 :: p.drop (i + 1) := by
    rw [← h, ← List.drop_eq_getElem_cons hi, List.take_append_drop]
  have hn : (47 : UInt8) ∉ p.drop (i + 1) := by
    intro hm
    obtain ⟨j, hj, e⟩ := List.getElem_of_mem hm
    rw [List.length_drop] at hj
    rw [List.getElem_drop] at e
    exact hb (i + 1 + j) (by omega) (by omega) e
  have := upB_cut (p.take i) (p.drop (i + 1)) hn
  rw [← e] at this; exact this

theorem S_bang (p : List UInt8) (j : Nat) (h : j < p.length) : (S p).data[j]! = p[j] := by
  show p.toArray[j]! = p[j]
  rw [getElem!_pos p.toArray j (by simpa using h)]; simp
set_option maxHeartbeats 1000000 in
theorem parentP_any (p : List UInt8) (h0 : p ≠ []) (hp : p.length ≤ 5000) (w : World) :
    Calls Tryz.prog 49 #[.string (S p)] w fun e w' => e = .returned (.tuple #[.string (S (upB p).1), .string (S (upB p).2)]) ∧ Below w.heap.size w w' := by
  have hL := Lib.hid (fun w => Tryz.strings_LastIndexByte (S p) 47 (by rw [S_size]; omega) w)
  rcases Lib.lastIndexByte_spec (S p) 47 with ⟨h1, h2⟩ | ⟨i, h1, h2, h3, h4⟩
  · have X := Lib.hid (upB_none h0 (by
      intro hm
      obtain ⟨j, hj, e⟩ := List.getElem_of_mem hm
      exact h2 j (by rw [S_size]; exact hj) (by rw [S_bang p j hj, e]; rfl)))
    rw [h1] at hL
    clear h1 h2
    go_enter Tryz.func49, Tryz.ntmps49
    go_wp2_with fail
    refine (hL.out _).mono ?_
    rintro e w' ⟨rfl, rfl⟩
    go_wp2_with fail
    go_ret2
    exact ⟨by rw [X.out]; rfl, Below.refl _ _⟩
  · rw [S_size] at h1 h4
    have X := Lib.hid (upB_at h1 (by rw [S_bang p i h1] at h3; exact UInt8.toNat_inj.1 (by have : (p[i].toNat : Int) = 47 := h3; show p[i].toNat = 47; omega)) (fun j hj hij e => h4 j hij hj (by rw [S_bang p j hj, e]; rfl)))
    rw [h2] at hL
    clear h2 h3 h4
    have hk2 : (i : Int) + 1 ≤ (p.length : Int) := by omega
    have hk3 : (0 : Int) ≤ (i : Int) := by omega
    have hk4 : (i : Int) ≤ (p.length : Int) := by omega
    go_enter Tryz.func49, Tryz.ntmps49
    go_wp2_with fail
    refine (hL.out _).mono ?_
    rintro e w' ⟨rfl, rfl⟩
    go_wp2_with fail
    go_region
    all_goals go_wp2
    all_goals go_ret2
    all_goals exact ⟨by rw [X.out]; rfl, (Below.refl _ _).drew⟩
end Go.Proofs.YtpkabccinhfmbaaGreatDoor
namespace Go.Proofs.YtpkabccinhfmbaaGreatDoor
open Go.RowKit

theorem upB_len (p : List UInt8) : (upB p).1.length ≤ p.length + 1 ∧ (upB p).2.length ≤ p.length + 1 := by
  have hl : lensB (partsB p) ≤ p.length + 1 := by
    unfold partsB; split
    · simp [lensB]
    · exact lensB_cut _ _
  refine ⟨?_, ?_⟩
  · have h1 := joinB_len (partsB p).dropLast
    have h2 := lensB_drop (partsB p)
    show (joinB (partsB p).dropLast).length ≤ _
    omega
  · show ((partsB p).getLastD []).length ≤ _
    generalize partsB p = P at hl
    cases hP : P.getLast? with
    | none => rw [List.getLastD_eq_getLast?, hP]; simp
    | some x =>
      have hm := List.mem_of_getLast? hP
      rw [List.getLastD_eq_getLast?, hP]
      obtain ⟨i, hi, rfl⟩ := List.getElem_of_mem hm
      have := lensB_get P i hi
      show (P[i]).length ≤ _
      omega

/-- the elements of the directory that a path is in -/
theorem upB_parts {p : List UInt8} (h : pathB p = true) : partsB (upB p).1 = (partsB p).dropLast := by
  obtain ⟨_, he⟩ := pathB_ok h
  unfold upB
  exact parts_join2 fun e hm => by
    have := elementB_ok (he e (List.dropLast_subset _ hm)); exact ⟨this.1, this.2.2⟩
theorem parts_last {p : List UInt8} (h : pathB p = true) (hne : p ≠ []) : partsB p = (partsB p).dropLast ++ [(upB p).2] ∧ elementB (upB p).2 = true := by
  have hn := partsB_ne hne
  have e : (upB p).2 = (partsB p).getLast hn := by
    unfold upB
    rw [List.getLastD_eq_getLast?, List.getLast?_eq_some_getLast hn]; rfl
  rw [e]
  exact ⟨(List.dropLast_concat_getLast hn).symm, (pathB_ok h).2 _ (List.getLast_mem hn)⟩
end Go.Proofs.YtpkabccinhfmbaaGreatDoor
namespace Go.Proofs.YtpkabccinhfmbaaGreatDoor

def rawTen : List UInt8 := [108, 111, 110, 103, 45, 110, 97, 109, 101, 45]
def rawRep : Nat → List UInt8
  | 0 => []
  | k + 1 => rawRep k ++ rawTen
theorem rawRep_len (k : Nat) : (rawRep k).length = 10 * k := by
  induction k with
  | zero => rfl
  | succ k ih => rw [rawRep, List.length_append, ih]; simp [rawTen]; omega
def rawPaths : List (List UInt8) := [[97], [97, 47, 98], [97, 47, 98, 47, 99], [97, 47, 100], [97, 47, 101], [97, 45, 98], [98], [100], [100, 47, 120], [100, 47, 120, 47, 121], [100, 47, 120, 47, 121, 47, 122], [100, 47, 122], (rawRep 12).take 50, (rawRep 12).take 50 ++ [47] ++ (rawRep 12).take 55, (rawRep 12).take 50 ++ [47] ++ (rawRep 12).take 55 ++ [47] ++ (rawRep 12).take 60, [119], [119, 47, 102]]
/-- a text up to its last slash -/
def rawUp (p : List UInt8) : Nat → List UInt8
  | 0 => []
  | k + 1 => if p[k]? = some 47 then p.take k else rawUp p k
theorem rawPaths_ok : (rawPaths.all fun p => pathB p && !p.isEmpty && decide (p.length ≤ 170) && decide (rawUp p p.length = (upB p).1)) = true := by decide +kernel
theorem rawPaths_rise : rawPaths.Pairwise fun a b => orderL (partsB a) (partsB b) < 0 := by decide +kernel
theorem rawPaths_len : rawPaths.length = 17 := rfl
theorem rawPaths_at {i : Nat} (h : i < rawPaths.length) : pathB rawPaths[i] = true ∧ rawPaths[i] ≠ [] ∧ rawPaths[i].length ≤ 170 ∧ rawUp rawPaths[i] rawPaths[i].length = (upB rawPaths[i]).1 := by
  have := List.all_eq_true.1 rawPaths_ok _ (List.getElem_mem h)
  simp only [Bool.and_eq_true, decide_eq_true_eq, Bool.not_eq_true', List.isEmpty_eq_false_iff] at this
  exact ⟨this.1.1.1, this.1.1.2, this.1.2, this.2⟩
theorem kindF_same' {l : List Ent} {F : Forest} (h : Lists l F) (d : List UInt8) : kindL l d = match F (partsB d) with | some x => x.kind | none => 0 := by
  unfold kindL
  by_cases h0 : d = []
  · subst h0
    rw [if_pos rfl, show partsB ([] : List UInt8) = [] from rfl, h.root]
  · rw [if_neg h0]
    cases hf : l.find? (fun e => decide (e.path = d)) with
    | some e =>
      have h1 := List.find?_some hf
      have h2 := List.mem_of_find?_eq_some hf
      have h3 : e.path = d := by simpa using h1
      rw [← h3, h.mem e h2]; rfl
    | none =>
      cases hF : F (partsB d) with
      | none => rfl
      | some x =>
        rcases h.only _ x hF with h1 | ⟨e, he, h1, _⟩
        · exact absurd h1 (partsB_ne h0)
        · have := List.find?_eq_none.1 hf e he
          rw [parts_same h1] at this; simp at this
/-- a raw tree, as far as it has come -/
structure RawOk (i : Nat) (out : List Ent) : Prop where
  len : out.length ≤ i
  right : ∀ j, j < out.length → wrongR out j = false
  from' : ∀ e ∈ out, ∃ j, j < i ∧ rawPaths[j]? = some e.path
theorem RawOk.step {i : Nat} {out : List Ent} (h : RawOk i out) : RawOk (i + 1) out :=
  ⟨by have := h.len; omega, h.right, fun e he => by obtain ⟨j, hj, h2⟩ := h.from' e he; exact ⟨j, by omega, h2⟩⟩
theorem RawOk.lists {i : Nat} {out : List Ent} (h : RawOk i out) : Lists out (treeOf out) := by
  have hp : ∀ j, j < out.length → wrongP out j = false := by
    intro j
    induction j using Nat.strongRecOn with
    | ind j ih => intro hj; rw [wrong_same hj (fun q hq => ih q hq (by omega))]; exact h.right j hj
  have := lists_take (k := out.length) (Nat.le_refl _) hp
  rwa [List.take_length] at this
theorem RawOk.snoc {i : Nat} {out : List Ent} (h : RawOk i out) (hi : i < rawPaths.length) (c : Ent) (hc : c.path = rawPaths[i]) (hg : goodB c = true) (hd : (upB c.path).1 = [] ∨ ∃ e ∈ out, e.path = (upB c.path).1 ∧ e.kind = 1) : RawOk (i + 1) (out ++ [c]) := by
  obtain ⟨p1, p2, p3, p4⟩ := rawPaths_at hi
  rw [rawPaths_len] at hi
  refine ⟨by rw [List.length_append, List.length_singleton]; have := h.len; omega, fun j hj => ?_, fun e he => ?_⟩
  · by_cases hjo : j < out.length
    · have h1 := h.right j hjo
      have e1 : (out ++ [c])[j]? = out[j]? := List.getElem?_append_left hjo
      have e2 : (out ++ [c])[j - 1]? = out[j - 1]? := List.getElem?_append_left (by omega)
      have e3 : (out ++ [c]).take j = out.take j := List.take_append_of_le_length (by omega)
      unfold wrongR at h1 ⊢
      rw [e1, e2, e3]; exact h1
    · have hjl : j = out.length := by rw [List.length_append, List.length_singleton] at hj; omega
      subst hjl
      have e1 : (out ++ [c])[out.length]? = some c := by simp
      rw [wrongR_eq e1]
      have hl := h.len
      have hk40 : decide (out.length = 40) = false := decide_eq_false (by omega)
      have hkind : kindL ((out ++ [c]).take out.length) (upB c.path).1 = 1 := by
        rw [List.take_left']
        · rcases hd with hd | ⟨e, he, h1, h2⟩
          · rw [hd]; rfl
          · rw [kindF_same' h.lists, ← h1, h.lists.mem e he]; exact h2
        · rfl
      have hprev : (match (out ++ [c])[out.length - 1]? with | some x => decide (0 < out.length) && decide (0 ≤ orderL (partsB x.path) (partsB c.path)) | none => false) = false := by
        by_cases h0 : out.length = 0
        · rw [h0]
          cases (out ++ [c])[0 - 1]? <;> simp
        · have e2 : (out ++ [c])[out.length - 1]? = some out[out.length - 1] := by
            rw [List.getElem?_append_left (by omega), List.getElem?_eq_getElem (by omega)]
          rw [e2]
          obtain ⟨j, hj, h2⟩ := h.from' _ (List.getElem_mem (by omega : out.length - 1 < out.length))
          obtain ⟨hj2, h3⟩ := List.getElem?_eq_some_iff.1 h2
          have := List.pairwise_iff_getElem.1 rawPaths_rise j i hj2 (by rw [rawPaths_len]; exact hi) hj
          rw [h3, ← hc] at this
          have : decide (0 ≤ orderL (partsB out[out.length - 1].path) (partsB c.path)) = false := decide_eq_false (by omega)
          simp only [this, Bool.and_false]
      have hne : rawPaths[i].isEmpty = false := List.isEmpty_eq_false_iff.2 p2
      exact Bool.or_eq_false_iff.2 ⟨Bool.or_eq_false_iff.2 ⟨by rw [hk40, hg, hc, p1]; simpa using p2, hprev⟩, by rw [hkind]; rfl⟩
  · rcases List.mem_append.1 he with he | he
    · obtain ⟨j, hj, h2⟩ := h.from' e he
      exact ⟨j, by omega, h2⟩
    · rw [List.mem_singleton.1 he]
      exact ⟨i, by omega, by rw [hc, List.getElem?_eq_getElem (by rw [rawPaths_len]; exact hi)]⟩
end Go.Proofs.YtpkabccinhfmbaaGreatDoor
namespace Go.Proofs.YtpkabccinhfmbaaGreatDoor
open Go.RowKit

theorem class_any (b : UInt8) (w : World) :
    Calls Tryz.prog 70 #[.int .u8 b.toNat] w fun e w' => e = .returned (.bool (classB b)) ∧ w = w' := by
  have hb := u8_lt b
  have h0 : (0 : Int) ≤ (b.toNat : Int) := by omega
  have hi := classB_iff b
  generalize (b.toNat : Int) = c at *
  cases hc : classB b
  · have hci : ¬ _ := fun h => absurd (hi.2 h) (by simp [hc])
    clear hc hi
    go_enter Tryz.func70, Tryz.ntmps70
    go_wp2
    all_goals first
      | (go_ret; exact ⟨rfl, rfl⟩)
      | (exfalso; simp only [Bool.not_eq_true', Bool.not_eq_false', bne_iff_ne, bne_eq_false_iff_eq, decide_eq_true_eq, decide_eq_false_iff_not, ne_eq] at *; omega)
  · have hci := hi.1 hc
    clear hc hi
    go_enter Tryz.func70, Tryz.ntmps70
    go_wp2
    all_goals first
      | (go_ret; exact ⟨rfl, rfl⟩)
      | (exfalso; simp only [Bool.not_eq_true', Bool.not_eq_false', bne_iff_ne, bne_eq_false_iff_eq, decide_eq_true_eq, decide_eq_false_iff_not, ne_eq] at *; omega)

theorem hasPrefixT_any (s p : List UInt8) (w : World) :
    Calls Tryz.prog 38 #[.string (S s), .string (S p)] w fun e w' => e = .returned (.bool (p.isPrefixOf s)) ∧ w = w' :=
  (Tryz.strings_HasPrefix (S s) (S p) w).mono fun e w' ⟨he, hw⟩ => ⟨by rw [he, S_data, S_data]; rfl, hw.symm⟩

set_option maxHeartbeats 2000000 in
theorem elementP_any (s : List UInt8) (w : World) (hs : s.length ≤ maxLen) :
    Calls Tryz.prog 46 #[.string (S s)] w fun e w' => e = .returned (.bool (elementB s)) ∧ w = w' := by
  have hb := Lib.hid (fun w => hasPrefixT_any s [46, 119, 104, 46] w)
  unfold maxLen at hs
  by_cases e0 : s = []
  · subst e0
    go_enter Tryz.func46, Tryz.ntmps46
    go_wp2_with (go_at_call 38; refine (hb.out _).mono ?_; rintro e w' ⟨rfl, rfl⟩)
    go_ret
    exact ⟨rfl, rfl⟩
  replace e0 : s.isEmpty = false := by cases s <;> simp_all
  by_cases h1 : 60 < s.length
  · have HE := Lib.hid (show elementB s = false by simp [elementB, show ¬ s.length ≤ 60 by omega])
    go_enter Tryz.func46, Tryz.ntmps46
    go_wp2_with (go_at_call 38; refine (hb.out _).mono ?_; rintro e w' ⟨rfl, rfl⟩)
    go_ret
    exact ⟨ret_bool HE.out.symm, rfl⟩
  replace h1 : s.length ≤ 60 := by omega
  by_cases h2 : (s == [46]) = true
  · have HE := Lib.hid (show elementB s = false by simp [elementB, h2])
    go_enter Tryz.func46, Tryz.ntmps46
    go_wp2_with (go_at_call 38; refine (hb.out _).mono ?_; rintro e w' ⟨rfl, rfl⟩)
    go_ret
    exact ⟨ret_bool HE.out.symm, rfl⟩
  replace h2 : (s == [46]) = false := by simpa using h2
  by_cases h3 : (s == [46, 46]) = true
  · have HE := Lib.hid (show elementB s = false by simp [elementB, h3])
    go_enter Tryz.func46, Tryz.ntmps46
    go_wp2_with (go_at_call 38; refine (hb.out _).mono ?_; rintro e w' ⟨rfl, rfl⟩)
    go_ret
    exact ⟨ret_bool HE.out.symm, rfl⟩
  replace h3 : (s == [46, 46]) = false := by simpa using h3
  by_cases h4 : ([46, 119, 104, 46].isPrefixOf s) = true
  · have HE := Lib.hid (show elementB s = false by simp only [elementB, h4]; simp)
    go_enter Tryz.func46, Tryz.ntmps46
    go_wp2_with (go_at_call 38; refine (hb.out _).mono ?_; rintro e w' ⟨rfl, rfl⟩)
    go_ret
    exact ⟨ret_bool HE.out.symm, rfl⟩
  replace h4 : ([46, 119, 104, 46].isPrefixOf s) = false := by cases h : [46, 119, 104, 46].isPrefixOf s <;> simp_all
  have HE := Lib.hid (show elementB s = s.all classB by simp only [elementB, h1, h2, h3, h4, e0]; simp)
  go_enter Tryz.func46, Tryz.ntmps46
  go_wp2_with (go_at_call 38; refine (hb.out _).mono ?_; rintro e w' ⟨rfl, rfl⟩)
  go_loop [25] (fun i => ∃ k : Nat, k ≤ s.length ∧ i = .int .i64 k ∧ Hid ((s.take k).all classB = true)) (fun i => s.length - (intOf i).toNat)
  case atStart => exact ⟨0, by omega, rfl, by simp [Hid]⟩
  case round =>
    obtain ⟨k, hk, rfl, hall⟩ := hrel
    by_cases hlt : k < s.length
    · cases hcl : classB s[k]
      · have HA := Lib.hid (show s.all classB = false by rw [List.all_eq_false]; exact ⟨s[k], List.getElem_mem hlt, by simp [hcl]⟩)
        have HC := Lib.hid hcl
        clear hcl hall
        go_wp2_with (go_at_call 70; refine (class_any s[k] _).mono ?_; rintro e w' ⟨rfl, rfl⟩; rw [HC.out])
        go_ret
        exact ⟨ret_bool (HE.out.trans HA.out).symm, rfl⟩
      · have HA := Lib.hid (show (s.take (k + 1)).all classB = true by rw [all_snoc _ _ _ hlt, hall.out, hcl]; rfl)
        have HC := Lib.hid hcl
        clear hcl hall
        go_wp2_with (go_at_call 70; refine (class_any s[k] _).mono ?_; rintro e w' ⟨rfl, rfl⟩; rw [HC.out])
        go_round
        case rel => exact ⟨k + 1, by omega, by go_num, HA⟩
        case measure => simp [intOf]; omega
    · have HA := Lib.hid (show s.all classB = true by have := hall.out; rwa [List.take_of_length_le (Nat.le_of_not_lt hlt)] at this)
      replace hlt : s.length ≤ k := by omega
      go_wp2
      go_ret
      exact ⟨ret_bool (HE.out.trans HA.out).symm, rfl⟩
end Go.Proofs.YtpkabccinhfmbaaGreatDoor
namespace Go.Proofs.YtpkabccinhfmbaaGreatDoor
open Go.RowKit

theorem splitK_ne (c x : UInt8) (r : List UInt8) (h : x ≠ c) (n : Nat) : Lib.splitK [c] 0 n (x :: r) = match Lib.splitK [c] 0 n r with
    | [] => [[x]]
    | a :: t => (x :: a) :: t := by
  cases n with
  | zero => rfl
  | succ n =>
    have hi : Lib.index (x :: r) [c] = if Lib.index r [c] == -1 then -1 else Lib.index r [c] + 1 := by
      rw [Lib.index, if_neg]
      simp [List.isPrefixOf]; exact fun e => h e.symm
    have hg := Lib.index_ge r [c]
    unfold Lib.splitK
    rw [hi]
    by_cases h1 : Lib.index r [c] = -1
    · simp [h1]
    · have h2 : (Lib.index r [c] == -1) = false := by simpa using h1
      have h3 : (Lib.index r [c] + 1 == -1) = false := by simp; omega
      simp only [h2, h3, Bool.false_eq_true, if_false]
      obtain ⟨i, hi⟩ := Int.eq_ofNat_of_zero_le (show 0 ≤ Lib.index r [c] by omega)
      rw [hi]
      simp only [Nat.add_zero, show ((i : Int) + 1).toNat = i + 1 by omega, show (i : Int).toNat = i by omega, List.take_succ_cons]
      rw [show i + 1 + [c].length = (i + [c].length) + 1 by omega, List.drop_succ_cons]
theorem split_cut (c : UInt8) (s : List UInt8) : Lib.splitK [c] 0 (Lib.count s [c]) s = cutB c s := by
  induction s with
  | nil => simp [Lib.count, Lib.countFrom, Lib.splitK, Lib.index, cutB]
  | cons x r ih =>
    by_cases h : x = c
    · subst h
      rw [Lib.count_cons_eq, Nat.add_comm, Lib.splitK]
      have : Lib.index (x :: r) [x] = 0 := by rw [Lib.index, if_pos (by simp [List.isPrefixOf])]
      rw [this, cutB, if_pos rfl]
      simp [ih]
    · rw [Lib.count_cons_ne _ _ _ h, splitK_ne _ _ _ h, ih, cutB, if_neg h]
      cases cutB c r <;> rfl

theorem split_any (s : List UInt8) (b : UInt8) (w : World) (hw : Std w) (hs : s.length ≤ 4294967280) :
    Calls Tryz.prog 69 #[.string (S s), .string (S [b])] w fun e w' => ∃ v, e = .returned v ∧ w'.ownsRow w.heap.size 9 1 v (cutB b s).length (strs (cutB b s)) ∧ Below w.heap.size w w' := by
  obtain ⟨m, hm⟩ := hw.maxlen
  refine (Tryz.strings_Split (S s) (S [b]) m w (by rw [S_size]; omega) hm (by rw [S_size]; simp)).mono fun e w' ⟨he, hw⟩ => ?_
  have e0 : (Lib.splitB (S [b]) 0 (Lib.countB (S s) (S [b])) (S s)).map Value.string = strs (cutB b s) := by
    have h1 := Lib.splitB_data (S [b]) 0 (Lib.countB (S s) (S [b])) (S s)
    rw [S_data, S_data, show Lib.countB (S s) (S [b]) = Lib.count s [b] by rw [Lib.countB, S_data, S_data], split_cut] at h1
    rw [← h1, strs, List.map_map]
    apply List.map_congr_left
    intro x _
    simp [S_of]
  have e1 : Lib.countB (S s) (S [b]) + 1 = (cutB b s).length := by
    have h1 := Lib.splitB_all (S [b]) (by rw [S_size]; simp) 0 _ (S s) rfl
    rw [← h1, ← List.length_map (f := Value.string), e0, strs_len]
  refine ⟨_, he, ?_, ?_⟩
  · rw [hw, e0, e1]
    have hl := cutB_len b s
    have := World.ownsRow_lit (base := w.heap.size) (e := 9) (size := 1) w (strs (cutB b s)).toArray (cutB b s).length (Nat.le_refl _) (by unfold maxLen; omega) (by simp [strs_len])
    simpa using this
  · rw [hw]; exact (Below.refl _ _).alloc (Nat.le_refl _) _

theorem partsP_any (s : List UInt8) (w : World) (hw : Std w) (hs : s.length ≤ 4294967280) :
    Calls Tryz.prog 45 #[.string (S s)] w fun e w' => ∃ v, e = .returned v ∧ w'.ownsRow w.heap.size 9 1 v (partsB s).length (strs (partsB s)) ∧ Below w.heap.size w w' := by
  by_cases h0 : s = []
  · subst h0
    go_enter Tryz.func45, Tryz.ntmps45
    go_wp2
    go_ret
    exact ⟨_, rfl, World.ownsRow_nil _ _ _ _, Below.refl _ _⟩
  · have e0 : s.isEmpty = false := by cases s <;> simp_all
    have X := Lib.hid (show partsB s = cutB 47 s by simp [partsB, h0])
    have HS := Lib.hid hw
    clear hw
    go_enter Tryz.func45, Tryz.ntmps45
    go_wp2_with (go_at_call 69; refine (split_any s 47 _ HS.out hs).mono ?_; rintro e w1 ⟨v, rfl, hown, hb⟩)
    go_ret
    exact ⟨_, rfl, by rw [X.out]; exact hown, hb⟩

theorem partsB_lens (s : List UInt8) : lensB (partsB s) ≤ s.length + 1 := by
  unfold partsB; split
  · simp [lensB]
  · exact lensB_cut _ _

set_option maxHeartbeats 1000000 in
theorem pathP_any (s : List UInt8) (w : World) (hw : Std w) (hs : s.length ≤ 4294967280) :
    Calls Tryz.prog 29 #[.string (S s)] w fun e w' => e = .returned (.bool (pathB s)) ∧ Below w.heap.size w w' := by
  have hpl := partsB_len s
  have HS := Lib.hid hw
  clear hw
  by_cases h1 : s.length ≤ 170 ∧ (partsB s).length ≤ 12
  case neg =>
    have X := Lib.hid (show pathB s = false by unfold pathB; rw [← Bool.decide_and, decide_eq_false h1]; rfl)
    by_cases h2 : 170 < s.length
    all_goals
      have h3 : 170 < s.length ∨ 12 < (partsB s).length := by omega
      clear h1
      go_enter Tryz.func29, Tryz.ntmps29
      go_wp2_with (go_at_call 45; refine (partsP_any s _ HS.out hs).mono ?_; rintro e w1 ⟨v, rfl, hown, hb⟩; obtain ⟨A, cap, rfl, _, _, hrd⟩ := Rd.of_own hown; clear hown)
      go_ret
      exact ⟨ret_bool X.out.symm, hb⟩
  obtain ⟨h2, h3⟩ := h1
  have X := Lib.hid (show pathB s = (partsB s).all elementB by unfold pathB; rw [decide_eq_true h2, decide_eq_true h3]; rfl)
  go_enter Tryz.func29, Tryz.ntmps29
  go_wp2_with (go_at_call 45; refine (partsP_any s _ HS.out hs).mono ?_; rintro e w1 ⟨v, rfl, hown, hb⟩; obtain ⟨A, cap, rfl, _, _, hrd⟩ := Rd.of_own hown; clear hown)
  generalize hL : partsB s = L at *
  have HL := Lib.hid hL
  clear hL
  go_loop [18] (fun i => ∃ k : Nat, k ≤ L.length ∧ i = .int .i64 k ∧ Hid ((L.take k).all elementB = true)) (fun i => L.length - (intOf i).toNat)
  case atStart => exact ⟨0, Nat.zero_le _, rfl, rfl⟩
  case round =>
    obtain ⟨k, hk, rfl, hall⟩ := hrel
    by_cases hlt : k < L.length
    · obtain ⟨b, o, rfl, hbb, hc⟩ := hrd.at k (by simpa [strs] using hlt)
      have hck := hc k _ (strs_get hlt)
      have hel : L[k].length ≤ maxLen := by
        have := lensB_get L k hlt
        have h4 : lensB L ≤ s.length + 1 := by rw [← HL.out]; exact partsB_lens s
        unfold maxLen; omega
      cases hE : elementB L[k]
      · have Y := Lib.hid (show L.all elementB = false by rw [List.all_eq_false]; exact ⟨L[k], List.getElem_mem hlt, by simp [hE]⟩)
        have HE := Lib.hid hE
        clear hc hrd hall hE
        go_wp2_with (go_at_call 46; refine (elementP_any L[k] _ hel).mono ?_; rintro e w2 ⟨rfl, rfl⟩; rw [HE.out])
        go_ret
        exact ⟨ret_bool (by rw [X.out, Y.out]), hb⟩
      · have Y := Lib.hid (show (L.take (k + 1)).all elementB = true by rw [all_snoc _ _ _ hlt, hall.out, hE]; rfl)
        have HE := Lib.hid hE
        clear hc hrd hall hE
        go_wp2_with (go_at_call 46; refine (elementP_any L[k] _ hel).mono ?_; rintro e w2 ⟨rfl, rfl⟩; rw [HE.out])
        go_round
        case rel => exact ⟨k + 1, by omega, by go_num, Y⟩
        case measure => simp [intOf]; omega
    · obtain rfl : k = L.length := by omega
      have Y := Lib.hid (show L.all elementB = true by have := hall.out; rwa [List.take_length] at this)
      clear hall
      go_wp2
      go_ret
      exact ⟨ret_bool (by rw [X.out, Y.out]), hb⟩
end Go.Proofs.YtpkabccinhfmbaaGreatDoor
namespace Go.Proofs.YtpkabccinhfmbaaGreatDoor
open Go.RowKit

theorem joinP_any (a b : List UInt8) (w : World) (hs : a.length + b.length ≤ 9000000000) :
    Calls Tryz.prog 54 #[.string (S a), .string (S b)] w fun e w' => e = .returned (.string (S (inB a b))) ∧ w = w' := by
  by_cases h1 : a = []
  · subst h1
    go_enter Tryz.func54, Tryz.ntmps54
    go_wp2
    go_ret
    exact ⟨ret_str (by simp [inB]), rfl⟩
  have f1 : a.isEmpty = false := by cases a <;> simp_all
  by_cases h2 : b = []
  · subst h2
    have X := Lib.hid (show inB a [] = a by simp [inB])
    clear h1
    go_enter Tryz.func54, Tryz.ntmps54
    go_wp2
    go_ret
    exact ⟨ret_str (by rw [X.out]), rfl⟩
  have f2 : b.isEmpty = false := by cases b <;> simp_all
  have X := Lib.hid (show inB a b = a ++ 47 :: b by simp [inB, h1, h2])
  clear h1 h2
  go_enter Tryz.func54, Tryz.ntmps54
  go_wp2
  go_ret
  exact ⟨ret_str (by rw [X.out]), rfl⟩

set_option maxHeartbeats 1000000 in
theorem targetP_any (s : List UInt8) (w : World) (hs : s.length ≤ maxLen) :
    Calls Tryz.prog 47 #[.string (S s)] w fun e w' => e = .returned (.bool (targetB s)) ∧ w = w' := by
  unfold maxLen at hs
  go_enter Tryz.func47, Tryz.ntmps47
  go_wp2
  go_loop [6] (fun i => ∃ k : Nat, k ≤ s.length ∧ i = .int .i64 k ∧ Hid ((s.take k).all visC = true)) (fun i => s.length - (intOf i).toNat)
  case atStart => exact ⟨0, by omega, rfl, by simp [Hid]⟩
  case round =>
    obtain ⟨k, hk, rfl, hall⟩ := hrel
    by_cases hlt : k < s.length
    · have hi := visC_iff s[k]
      cases hc : visC s[k]
      · have HA := Lib.hid (show targetB s = false by
          have : s.all visC = false := by rw [List.all_eq_false]; exact ⟨s[k], List.getElem_mem hlt, by simp [hc]⟩
          rw [targetB, this]; rfl)
        have hn : ¬ (33 ≤ (s[k].toNat : Int) ∧ (s[k].toNat : Int) ≤ 126) := fun h => absurd (hi.2 h) (by simp [hc])
        clear hc hi hall
        by_cases h33 : (s[k].toNat : Int) < 33
        · clear hn
          go_wp2
          go_ret
          exact ⟨ret_bool HA.out.symm, rfl⟩
        · have h126 : 126 < (s[k].toNat : Int) := by omega
          clear hn
          go_wp2
          go_ret
          exact ⟨ret_bool HA.out.symm, rfl⟩
      · have HA := Lib.hid (show (s.take (k + 1)).all visC = true by rw [all_snoc _ _ _ hlt, hall.out, hc]; rfl)
        obtain ⟨h33, h126⟩ := hi.1 hc
        clear hc hi hall
        go_wp2
        go_round
        case rel => exact ⟨k + 1, by omega, by go_num, HA⟩
        case measure => simp [intOf]; omega
    · have HA := Lib.hid (show targetB s = (!s.isEmpty && decide (s.length ≤ 100)) by
        have := hall.out; rw [List.take_of_length_le (Nat.le_of_not_lt hlt)] at this; rw [targetB, this]; rfl)
      replace hlt : s.length ≤ k := by omega
      clear hall
      by_cases he : s = []
      · subst he
        go_wp2
        go_ret
        exact ⟨ret_bool (by rw [HA.out]; rfl), rfl⟩
      · have f1 : s.isEmpty = false := by cases s <;> simp_all
        clear he
        go_wp2
        go_ret
        exact ⟨ret_bool (by rw [HA.out, f1]; simp; omega), rfl⟩


set_option maxHeartbeats 2000000 in
theorem goodP_any (x : Ent) (w : World) (hs : x.data.length ≤ 4294967280) :
    Calls Tryz.prog 30 #[x.agg] w fun e w' => e = .returned (.bool (goodB x)) ∧ Below w.heap.size w w' := by
  obtain ⟨p, kind, mode, data⟩ := x
  simp only [Ent.agg] at *
  by_cases k1 : kind = 1
  · subst k1
    have X := Lib.hid (show goodB ⟨p, 1, mode, data⟩ = (modeE mode && data.isEmpty) by simp [goodB])
    by_cases m0 : 0 ≤ mode
    case neg =>
      have m1 : mode < 0 := by omega
      have X2 := Lib.hid (show goodB ⟨p, 1, mode, data⟩ = false by rw [X.out, modeE, decide_eq_false (by omega)]; rfl)
      clear m0 X
      go_enter Tryz.func30, Tryz.ntmps30
      go_wp2
      go_ret
      exact ⟨ret_bool (by rw [X2.out]), (Below.refl _ _).alloc (Nat.le_refl _) _⟩
    by_cases m1 : mode ≤ 511
    case neg =>
      have m2 : 511 < mode := by omega
      have X2 := Lib.hid (show goodB ⟨p, 1, mode, data⟩ = false by rw [X.out, modeE, decide_eq_false (by omega)]; rfl)
      clear m1 X
      go_enter Tryz.func30, Tryz.ntmps30
      go_wp2
      go_ret
      exact ⟨ret_bool (by rw [X2.out]), (Below.refl _ _).alloc (Nat.le_refl _) _⟩
    have HM := Lib.hid (show modeE mode = true by rw [modeE, decide_eq_true ⟨m0, m1⟩])
    · by_cases d0 : data = []
      · subst d0
        go_enter Tryz.func30, Tryz.ntmps30
        go_wp2
        go_ret
        exact ⟨ret_bool (by rw [X.out, HM.out]; simp), (Below.refl _ _).alloc (Nat.le_refl _) _⟩
      · have f1 : data.isEmpty = false := by cases data <;> simp_all
        clear d0
        go_enter Tryz.func30, Tryz.ntmps30
        go_wp2
        go_ret
        exact ⟨ret_bool (by rw [X.out, HM.out, f1]; rfl), (Below.refl _ _).alloc (Nat.le_refl _) _⟩
  have f1 : (kind == 1) = false := by simpa using k1
  by_cases k2 : kind = 2
  · subst k2
    have X := Lib.hid (show goodB ⟨p, 2, mode, data⟩ = (modeE mode && decide (data.length ≤ 4096)) by simp [goodB])
    by_cases m0 : 0 ≤ mode
    case neg =>
      have m1 : mode < 0 := by omega
      have X2 := Lib.hid (show goodB ⟨p, 2, mode, data⟩ = false by rw [X.out, modeE, decide_eq_false (by omega)]; rfl)
      clear m0 X
      go_enter Tryz.func30, Tryz.ntmps30
      go_wp2
      go_ret
      exact ⟨ret_bool (by rw [X2.out]), (Below.refl _ _).alloc (Nat.le_refl _) _⟩
    by_cases m1 : mode ≤ 511
    case neg =>
      have m2 : 511 < mode := by omega
      have X2 := Lib.hid (show goodB ⟨p, 2, mode, data⟩ = false by rw [X.out, modeE, decide_eq_false (by omega)]; rfl)
      clear m1 X
      go_enter Tryz.func30, Tryz.ntmps30
      go_wp2
      go_ret
      exact ⟨ret_bool (by rw [X2.out]), (Below.refl _ _).alloc (Nat.le_refl _) _⟩
    have HM := Lib.hid (show modeE mode = true by rw [modeE, decide_eq_true ⟨m0, m1⟩])
    · by_cases d0 : data.length ≤ 4096
      · go_enter Tryz.func30, Tryz.ntmps30
        go_wp2
        go_ret
        exact ⟨ret_bool (by rw [X.out, HM.out]; simp; omega), (Below.refl _ _).alloc (Nat.le_refl _) _⟩
      · have d1 : 4096 < data.length := by omega
        clear d0
        go_enter Tryz.func30, Tryz.ntmps30
        go_wp2
        go_ret
        exact ⟨ret_bool (by rw [X.out, HM.out]; simp; omega), (Below.refl _ _).alloc (Nat.le_refl _) _⟩
  have f2 : (kind == 2) = false := by simpa using k2
  by_cases k3 : kind = 3
  · subst k3
    have X := Lib.hid (show goodB ⟨p, 3, mode, data⟩ = (decide (mode = 0) && targetB data) by simp [goodB])
    by_cases m0 : mode = 0
    · subst m0
      go_enter Tryz.func30, Tryz.ntmps30
      go_wp2_with (go_at_call 47; refine (targetP_any data _ (by unfold maxLen; omega)).mono ?_; rintro e9 w9 ⟨rfl, rfl⟩)
      go_ret
      exact ⟨ret_bool (by rw [X.out]; simp), (Below.refl _ _).alloc (Nat.le_refl _) _⟩
    · have m1 : (mode == 0) = false := by simpa using m0
      have X2 := Lib.hid (show goodB ⟨p, 3, mode, data⟩ = false by rw [X.out, decide_eq_false m0]; rfl)
      clear m0 X
      go_enter Tryz.func30, Tryz.ntmps30
      go_wp2
      go_ret
      exact ⟨ret_bool (by rw [X2.out]), (Below.refl _ _).alloc (Nat.le_refl _) _⟩
  have f3 : (kind == 3) = false := by simpa using k3
  have X2 := Lib.hid (show goodB ⟨p, kind, mode, data⟩ = false by simp [goodB, k1, k2, k3])
  clear k1 k2 k3
  go_enter Tryz.func30, Tryz.ntmps30
  go_wp2
  go_ret
  exact ⟨ret_bool X2.out.symm, (Below.refl _ _).alloc (Nat.le_refl _) _⟩
end Go.Proofs.YtpkabccinhfmbaaGreatDoor
namespace Go.Proofs.YtpkabccinhfmbaaGreatDoor
open Go.RowKit

theorem isNaN_any (s : List UInt8) (w : World) :
    Calls Tryz.prog 87 #[.string (S s)] w fun e w' => e = .returned (.bool false) ∧ w' = w := by
  go_enter Tryz.func87, Tryz.ntmps87
  go_wp2
  go_ret
  exact ⟨by simp, rfl⟩
theorem cmpS_lt {a b : List UInt8} (h : a < b) : cmpS a b = -1 := by unfold cmpS; rw [if_pos h]
theorem cmpS_gt {a b : List UInt8} (h : b < a) : cmpS a b = 1 := by
  unfold cmpS
  rw [if_neg (fun h2 => List.lt_irrefl a (List.lt_trans h2 h)), if_pos h]
theorem cmpS_eq {a b : List UInt8} (h1 : ¬ a < b) (h2 : ¬ b < a) : cmpS a b = 0 := by unfold cmpS; rw [if_neg h1, if_neg h2]
set_option maxHeartbeats 1000000 in
theorem cmpP_any (a b : List UInt8) (w : World) :
    Calls Tryz.prog 71 #[.string (S a), .string (S b)] w fun e w' => e = .returned (.int .i64 (cmpS a b)) ∧ w' = w := by
  have l1 := less_eq a b
  have l2 := less_eq b a
  by_cases h1 : a < b
  · have Y := Lib.hid (cmpS_lt h1)
    rw [decide_eq_true h1] at l1
    clear h1
    go_enter Tryz.func71, Tryz.ntmps71
    go_wp2_with (go_at_call 87; refine (isNaN_any _ _).mono ?_; rintro e1 w1 ⟨rfl, rfl⟩)
    go_ret
    exact ⟨ret_int Y.out.symm, rfl⟩
  · by_cases h2 : b < a
    · have Y := Lib.hid (cmpS_gt h2)
      have e1 : (a == b) = false := by rw [beq_eq_false_iff_ne]; intro e; subst e; exact h1 h2
      rw [decide_eq_false h1] at l1
      rw [decide_eq_true h2] at l2
      clear h1 h2
      go_enter Tryz.func71, Tryz.ntmps71
      go_wp2_with (go_at_call 87; refine (isNaN_any _ _).mono ?_; rintro e1 w1 ⟨rfl, rfl⟩)
      go_ret
      exact ⟨ret_int Y.out.symm, rfl⟩
    · have Y := Lib.hid (cmpS_eq h1 h2)
      have e1 : (a == b) = true := by rw [beq_iff_eq]; exact List.le_antisymm (List.not_lt.1 h2) (List.not_lt.1 h1)
      rw [decide_eq_false h1] at l1
      rw [decide_eq_false h2] at l2
      clear h1 h2
      go_enter Tryz.func71, Tryz.ntmps71
      go_wp2_with (go_at_call 87; refine (isNaN_any _ _).mono ?_; rintro e1 w1 ⟨rfl, rfl⟩)
      go_ret
      exact ⟨ret_int Y.out.symm, rfl⟩

theorem compareL_end {X Y : List (List UInt8)} {k : Nat} (h : k < X.length) (h2 : k = Y.length) : compareL (X.drop k) (Y.drop k) = 1 := by
  rw [List.drop_eq_getElem_cons h, List.drop_eq_nil_of_le (by omega : Y.length ≤ k)]; rfl
theorem compareL_at {X Y : List (List UInt8)} {k : Nat} (h : k < X.length) (h2 : k < Y.length) : compareL (X.drop k) (Y.drop k) = (if X[k] < Y[k] then -1 else if Y[k] < X[k] then 1 else compareL (X.drop (k + 1)) (Y.drop (k + 1))) := by
  rw [List.drop_eq_getElem_cons h, List.drop_eq_getElem_cons h2]; rfl
theorem compareL_out {X Y : List (List UInt8)} {k : Nat} (h : k = X.length) : compareL (X.drop k) (Y.drop k) = if k < Y.length then -1 else 0 := by
  rw [List.drop_eq_nil_of_le (by omega : X.length ≤ k)]
  split
  · rename_i h2
    rw [List.drop_eq_getElem_cons h2]; rfl
  · rw [List.drop_eq_nil_of_le (by omega : Y.length ≤ k)]; rfl

set_option maxHeartbeats 2000000 in
theorem sliceCmp_any (X Y : List (List UInt8)) (A B : Option Addr) (n m ca cb : Nat) (w : World) (hn : X.length = n) (hm : Y.length = m) (hx : Rd w A (strs X)) (hy : Rd w B (strs Y)) (hl : X.length ≤ 4294967290) (hl2 : Y.length ≤ 4294967290) :
    Calls Tryz.prog 48 #[.slice A n ca, .slice B m cb] w fun e w' => e = .returned (.int .i64 (compareL X Y)) ∧ w' = w := by
  subst hn
  subst hm
  have HX := Lib.hid hx
  have HY := Lib.hid hy
  clear hx hy
  go_enter Tryz.func48, Tryz.ntmps48
  go_wp2
  go_loop [11] (fun i => ∃ k : Nat, k ≤ X.length ∧ k ≤ Y.length ∧ i = .int .i64 k ∧ Hid (compareL X Y = compareL (X.drop k) (Y.drop k))) (fun i => X.length - (intOf i).toNat)
  case atStart => exact ⟨0, by omega, by omega, rfl, rfl⟩
  case round =>
    obtain ⟨k, hk, hk2, rfl, HQ⟩ := hrel
    by_cases hlt : k < X.length
    · obtain ⟨b, o, rfl, hb, hc⟩ := HX.out.at k (by rw [strs_len]; exact hlt)
      have a0 := hc k _ (strs_get hlt)
      have hkl : (k : Int) < (X.length : Int) := by omega
      clear hc
      by_cases h2 : k < Y.length
      · obtain ⟨b2, o2, rfl, hb2, hc2⟩ := HY.out.at k (by rw [strs_len]; exact h2)
        have a1 := hc2 k _ (strs_get h2)
        have hkm : (k : Int) < (Y.length : Int) := by omega
        have HE := Lib.hid (compareL_at hlt h2)
        clear hc2
        obtain ⟨x, hx⟩ : ∃ x, x = X[k] := ⟨_, rfl⟩
        obtain ⟨y, hy⟩ : ∃ y, y = Y[k] := ⟨_, rfl⟩
        rw [← hx, ← hy] at HE
        rw [← hx] at a0
        rw [← hy] at a1
        clear hx hy
        have HCm := Lib.hid (cmpP_any x y)
        by_cases l1 : x < y
        · have HR := Lib.hid (show compareL X Y = -1 by rw [HQ.out, HE.out, if_pos l1])
          have HC := Lib.hid (cmpS_lt l1)
          clear l1
          go_wp2_with (go_at_call 71; refine (HCm.out _).mono ?_; rintro e1 w1 ⟨rfl, rfl⟩; rw [HC.out])
          go_ret
          exact ⟨ret_int HR.out.symm, rfl⟩
        · by_cases l2 : y < x
          · have HR := Lib.hid (show compareL X Y = 1 by rw [HQ.out, HE.out, if_neg l1, if_pos l2])
            have HC := Lib.hid (cmpS_gt l2)
            clear l1 l2
            go_wp2_with (go_at_call 71; refine (HCm.out _).mono ?_; rintro e1 w1 ⟨rfl, rfl⟩; rw [HC.out])
            go_ret
            exact ⟨ret_int HR.out.symm, rfl⟩
          · have HR := Lib.hid (show compareL X Y = compareL (X.drop (k + 1)) (Y.drop (k + 1)) by rw [HQ.out, HE.out, if_neg l1, if_neg l2])
            have HC := Lib.hid (cmpS_eq l1 l2)
            clear l1 l2
            go_wp2_with (go_at_call 71; refine (HCm.out _).mono ?_; rintro e1 w1 ⟨rfl, rfl⟩; rw [HC.out])
            go_round
            case rel => exact ⟨k + 1, by omega, by omega, by go_num, HR⟩
            case measure => simp [intOf]; omega
      · have HR := Lib.hid (show compareL X Y = 1 by rw [HQ.out]; exact compareL_end hlt (by omega))
        go_wp2
        go_ret
        exact ⟨ret_int HR.out.symm, rfl⟩
    · have HR := Lib.hid (show compareL X Y = if k < Y.length then -1 else 0 by rw [HQ.out]; exact compareL_out (by omega))
      obtain rfl : k = X.length := by omega
      by_cases h2 : X.length < Y.length
      · rw [if_pos h2] at HR
        go_wp2
        go_ret
        exact ⟨ret_int HR.out.symm, rfl⟩
      · rw [if_neg h2] at HR
        go_wp2
        go_ret
        exact ⟨ret_int HR.out.symm, rfl⟩

theorem compareP_any (a b : List UInt8) (w : World) (hw : Std w) (ha : a.length ≤ 4294967280) (hb : b.length ≤ 4294967280) :
    Calls Tryz.prog 31 #[.string (S a), .string (S b)] w fun e w' => e = .returned (.int .i64 (compareL (partsB a) (partsB b))) ∧ Below w.heap.size w w' := by
  have HS := Lib.hid hw
  have hla := partsB_len a
  have hlb := partsB_len b
  clear hw
  go_enter Tryz.func31, Tryz.ntmps31
  go_wp2_with fail
  refine (partsP_any a _ HS.out ha).mono ?_
  rintro e w1 ⟨v1, rfl, hown1, hb1⟩
  obtain ⟨A1, cap1, rfl, _, _, hrd1⟩ := Rd.of_own hown1
  have HB1 := Lib.hid hb1
  have HR1 := Lib.hid hrd1
  clear hown1 hrd1 hb1
  go_wp2_with fail
  refine (partsP_any b _ (HS.out.below HB1.out) hb).mono ?_
  rintro e w2 ⟨v2, rfl, hown2, hb2⟩
  obtain ⟨A2, cap2, rfl, _, _, hrd2⟩ := Rd.of_own hown2
  have HB2 := Lib.hid (HB1.out.trans (hb2.mono HB1.out.size))
  have HR2 := Lib.hid (HR1.out.below hb2)
  have HR3 := Lib.hid hrd2
  clear hown2 hrd2 hb2
  go_wp2_with fail
  refine (sliceCmp_any (partsB a) (partsB b) A1 A2 _ _ cap1 cap2 _ rfl rfl HR2.out HR3.out (by omega) (by omega)).mono ?_
  rintro e w3 ⟨rfl, rfl⟩
  go_wp2
  go_ret
  exact ⟨rfl, HB2.out⟩
end Go.Proofs.YtpkabccinhfmbaaGreatDoor
namespace Go.Proofs.YtpkabccinhfmbaaGreatDoor
open Go.RowKit

def atV (a : Pth → Nat) (F : Forest) (p : Pth) : Value := nodeV (if (F p).isSome then some (a p) else none)
theorem atV_some {a : Pth → Nat} {F : Forest} {p : Pth} {x : Nd} (h : F p = some x) : atV a F p = .pointer (some ⟨a p, 0, none⟩) := by unfold atV; rw [h]; rfl
theorem atV_none {a : Pth → Nat} {F : Forest} {p : Pth} (h : F p = none) : atV a F p = .pointer none := by unfold atV; rw [h]; rfl
set_option maxHeartbeats 2000000 in
theorem find_any {w : World} {B N : Nat} {a m : Pth → Nat} {F : Forest} (hT : TreeAt w B N a m F) (t : Nat) (ht : TreeV w t a) (p : List UInt8) (hp : p.length ≤ 4294967280) (hS : Std w) :
    Calls Tryz.prog 50 #[.pointer (some ⟨t, 0, none⟩), .string (S p)] w fun e w' => e = .returned (atV a F (partsB p)) ∧ Below w.heap.size w w' := by
  have HT := Lib.hid hT
  have HS := Lib.hid hS
  have ht0 : w.cell? ⟨t, 0, none⟩ = some (.pointer (some ⟨a [], 0, none⟩)) := ht
  clear hT hS ht
  go_enter Tryz.func50, Tryz.ntmps50
  go_wp2_with fail
  refine (partsP_any p _ HS.out hp).mono ?_
  rintro e w1 ⟨v, rfl, hown, hb⟩
  obtain ⟨A, cap, rfl, _, _, hrd⟩ := Rd.of_own hown
  have HB := Lib.hid hb
  have HR := Lib.hid hrd
  have HT1 := Lib.hid (HT.out.below hb)
  have hlen := partsB_lens p
  have hpl := partsB_len p
  clear hown hb hrd HT ht0
  generalize hL : partsB p = L at *
  have HL := Lib.hid hL
  clear hL
  go_wp2
  go_loop [5, 15] (fun n i => ∃ k : Nat, k ≤ L.length ∧ i = .int .i64 k ∧ n = .pointer (some ⟨a (L.take k), 0, none⟩) ∧ Hid (∃ x, F (L.take k) = some x)) (fun _ i => L.length - (intOf i).toNat)
  case atStart =>
    obtain ⟨x, hx, _⟩ := HT1.out.tree.root
    exact ⟨0, Nat.zero_le _, rfl, rfl, x, hx⟩
  case round =>
    obtain ⟨k, hk, rfl, rfl, hX⟩ := hrel
    obtain ⟨x, hx⟩ := hX.out
    by_cases hlt : k < L.length
    · obtain ⟨b, o, rfl, hbb, hc⟩ := HR.out.at k (by rw [strs_len]; exact hlt)
      have hck := hc k _ (strs_get hlt)
      have hel : L[k].length ≤ maxLen := by
        have := lensB_get L k hlt
        unfold maxLen; omega
      have htk := Lib.hid (show L.take k ++ [L[k]] = L.take (k + 1) from (List.take_succ_eq_append_getElem hlt).symm)
      obtain ⟨_, _, _, _, c4⟩ := HT1.out.cells _ _ hx
      have hlk := HT1.out.look _ _ hx L[k] hel
      rw [htk.out] at hlk
      clear hc hel
      cases hn : F (L.take (k + 1)) with
      | none =>
        have Y := Lib.hid (atV_none (a := a) (show F L = none by
          have := HT1.out.tree.pre (L.take (k + 1)) (L.drop (k + 1)) hn
          rwa [List.take_append_drop] at this))
        rw [hn] at hlk
        replace hlk : (Instr.lookup tMap (mapV x (m (L.take k))) (.string (S L[k])) false).run Tryz.prog w1 = .ok (.pointer none) w1 := hlk
        have HX := Lib.hid hx
        clear hn hx hX
        go_wp2
        go_ret
        exact ⟨by rw [HL.out, Y.out]; rfl, HB.out⟩
      | some y =>
        rw [hn] at hlk
        replace hlk : (Instr.lookup tMap (mapV x (m (L.take k))) (.string (S L[k])) false).run Tryz.prog w1 = .ok (.pointer (some ⟨a (L.take (k + 1)), 0, none⟩)) w1 := hlk
        have HN := Lib.hid hn
        clear hn hx hX
        go_wp2
        go_round
        case rel => exact ⟨k + 1, by omega, by go_num, rfl, y, HN.out⟩
        case measure => simp [intOf]; omega
    · obtain rfl : k = L.length := by omega
      have Y := Lib.hid (show atV a F L = .pointer (some ⟨a (L.take L.length), 0, none⟩) by
        rw [List.take_length] at hx ⊢; exact atV_some hx)
      clear hx hX
      go_wp2
      go_ret
      exact ⟨by rw [HL.out, Y.out]; simp, HB.out⟩
end Go.Proofs.YtpkabccinhfmbaaGreatDoor
namespace Go.Proofs.YtpkabccinhfmbaaGreatDoor
open Go.RowKit

/-- all cells stay -/
def KeepC (w w' : World) : Prop := ∀ (p : Addr) (v : Value), w.cell? p = some v → w'.cell? p = some v
theorem KeepC.below {w w' : World} (h : Below w.heap.size w w') : KeepC w w' := fun p v hp => (h.cell (World.block_lt_of_cell? w _ hp)).trans hp
theorem KeepC.trans {a b c : World} (h : KeepC a b) (k : KeepC b c) : KeepC a c := fun p v hp => k p v (h p v hp)
def PutOut (B N : Nat) (a m : Pth → Nat) (F : Forest) (t : Nat) (x : Ent) (W : World) (e : Ending) (w' : World) : Prop :=
  (isDirF F (partsB x.path).dropLast = false ∧ e = .returned (.bool false) ∧ Below W.heap.size W w' ∧ KeepC W w') ∨
  (isDirF F (partsB x.path).dropLast = true ∧ e = .returned (.bool true) ∧ ∃ a' m', TreeAt w' B (N + 1) a' m' (putF F (partsB x.path) (ndOf x)) ∧ TreeV w' t a' ∧ Below B W w' ∧ KeepC W w')
/-- all blocks stay but the tree's own maps -/
def KeepB (m : Pth → Nat) (F : Forest) (w w' : World) : Prop := ∀ k, k < w.heap.size → (∀ p, isDirF F p = true → k ≠ m p) → w'.heap[k]? = w.heap[k]?
theorem KeepB.below {m : Pth → Nat} {F : Forest} {w w' : World} (h : Below w.heap.size w w') : KeepB m F w w' := fun k hk _ => h.block k hk
/-- what put leaves, told whole: the new tree's blocks are the old one's or new -/
def PutFull (B N : Nat) (a m : Pth → Nat) (F : Forest) (t : Nat) (x : Ent) (W : World) (e : Ending) (w' : World) : Prop :=
  (isDirF F (partsB x.path).dropLast = false ∧ e = .returned (.bool false) ∧ Below W.heap.size W w' ∧ KeepC W w') ∨
  (isDirF F (partsB x.path).dropLast = true ∧ e = .returned (.bool true) ∧ ∃ a' m', TreeAt w' B (N + 1) a' m' (putF F (partsB x.path) (ndOf x)) ∧ TreeV w' t a' ∧ Below B W w' ∧ KeepC W w' ∧ KeepB m F W w' ∧ (∀ p, (a' p = a p ∧ p ≠ partsB x.path) ∨ W.heap.size ≤ a' p) ∧ (∀ p, (m' p = m p ∧ (x.kind = 1 → p = partsB x.path → isDirF F p = true)) ∨ W.heap.size ≤ m' p))
theorem PutFull.out {B N : Nat} {a m : Pth → Nat} {F : Forest} {t : Nat} {x : Ent} {W : World} {e : Ending} {w' : World} (h : PutFull B N a m F t x W e w') : PutOut B N a m F t x W e w' := by
  rcases h with h | ⟨h1, h2, a', m', h3, h4, h5, h6, _⟩
  · exact .inl h
  · exact .inr ⟨h1, h2, a', m', h3, h4, h5, h6⟩
theorem isDirF_none {F : Forest} {p : Pth} (h : F p = none) : isDirF F p = false := by unfold isDirF; rw [h]
theorem isDirF_some {F : Forest} {p : Pth} {x : Nd} (h : F p = some x) : isDirF F p = decide (x.kind = 1) := by unfold isDirF; rw [h]

/-- a map's change leaves all cells -/
theorem MapIs.cell {w w' : World} {b n : Nat} {f : List UInt8 → Option Nat} (h : MapIs w b n f) (hg : w.grownBy w' (some b)) (p : Addr) (v : Value) (hp : w.cell? p = some v) : w'.cell? p = some v := by
  refine (World.cell?_of_block (hg.block p.block (World.block_lt_of_cell? w _ hp) (fun he => ?_))).trans hp
  have hb : p.block = b := Option.some.inj he
  obtain ⟨D, ⟨es, clock, hm, _⟩, _⟩ := h
  unfold World.cell? at hp
  rw [hb, hm] at hp; cases hp
/-- the end of put -/
theorem put_end {w w2 wz w3 : World} {B N : Nat} {a m : Pth → Nat} {F : Forest} (hT : TreeAt w2 B N a m F) (t : Nat) (ht : TreeV w t a) (x : Ent) (D : Pth) (last : List UInt8) (hL : partsB x.path = D ++ [last]) (hd : isDirF F D = true)
    (hB : B ≤ w.heap.size) (h0 : Below w.heap.size w w2) (h1 : Below w2.heap.size w2 wz) (mb : Nat) (hnode : wz.heap[w2.heap.size]? = some (Obj.cells (nodeC (ndOf x) mb) tNode (0, 0)))
    (hm2 : mb = m (D ++ [last]) ∨ w2.heap.size ≤ mb) (hmb : x.kind = 1 → (isDirF F (D ++ [last]) = true → mb = m (D ++ [last])) ∧ (isDirF F (D ++ [last]) = false → w2.heap.size ≤ mb ∧ MapIs wz mb 0 (fun _ => none)))
    (hz : MapIs wz (m D) N (kidsF F a D)) (hup : MapIs w3 (m D) (N + 1) (upd (kidsF F a D) last (some w2.heap.size))) (h2 : wz.grownBy w3 (some (m D))) :
    PutFull B N a m F t x w (.returned (.bool true)) w3 := by
  have hbase : B ≤ w2.heap.size := by have := h0.size; omega
  obtain ⟨y, hy, hk⟩ := isDirF_iff.1 hd
  refine .inr ⟨by rw [hL, List.dropLast_concat]; exact hd, rfl, updP a (D ++ [last]) w2.heap.size, updP m (D ++ [last]) mb, ?_, ?_, ?_, ?_, fun k hk hne => ?_, fun q => ?_, fun q => ?_⟩
  · rw [hL]
    exact hT.put D last (ndOf x) hd hbase h1 w2.heap.size mb (Nat.le_refl _) hnode hmb hup h2
  · unfold TreeV
    rw [updP_other (by simp)]
    exact hz.cell h2 _ _ (((h0.trans (h1.mono h0.size)).cell (p := ⟨t, 0, none⟩) (World.block_lt_of_cell? w _ ht)).trans ht)
  · exact (((h0.mono hB).trans (h1.mono hbase))).grown h2 (by have := h1.size; omega) (fun k hk2 => by
      have : m D = k := Option.some.inj hk2
      rw [← this]; exact (hT.base D y hy).2 hk)
  · exact fun q v hq => hz.cell h2 q v ((KeepC.below (h0.trans (h1.mono h0.size))) q v hq)
  · have hbb := h0.trans (h1.mono h0.size)
    exact (h2.block k (Nat.lt_of_lt_of_le hk hbb.size) (fun e => hne D hd (Option.some.inj e))).trans (hbb.block k hk)
  · by_cases hq : q = D ++ [last]
    · subst hq; rw [updP_same]; exact .inr h0.size
    · rw [updP_other hq, hL]; exact .inl ⟨rfl, hq⟩
  · by_cases hq : q = D ++ [last]
    · subst hq
      rw [updP_same]
      cases hdl : isDirF F (D ++ [last]) with
      | true =>
        rcases hm2 with e | e
        · exact .inl ⟨e, fun _ _ => rfl⟩
        · exact .inr (Nat.le_trans h0.size e)
      | false =>
        by_cases hk1 : x.kind = 1
        · exact .inr (Nat.le_trans h0.size ((hmb hk1).2 hdl).1)
        · rcases hm2 with e | e
          · exact .inl ⟨e, fun h => absurd h hk1⟩
          · exact .inr (Nat.le_trans h0.size e)
    · rw [updP_other hq, hL]; exact .inl ⟨rfl, fun _ h => absurd h hq⟩
set_option maxHeartbeats 4000000 in
set_option maxRecDepth 100000 in
theorem put_all {w : World} {B N : Nat} {a m : Pth → Nat} {F : Forest} (hT : TreeAt w B N a m F) (t : Nat) (ht : TreeV w t a) (x : Ent) (hp : pathB x.path = true) (hne : x.path ≠ []) (hN : N + 1 < 4294967290) (hB : B ≤ w.heap.size) (hS : Std w) :
    Calls Tryz.prog 32 #[.pointer (some ⟨t, 0, none⟩), x.agg] w (PutFull B N a m F t x w) := by
  obtain ⟨p, k, md, dt⟩ := x
  simp only at hp hne
  rw [show Ent.agg ⟨p, k, md, dt⟩ = .agg #[.string (S p), .int .i64 k, .int .i64 md, .string (S dt)] from rfl]
  obtain ⟨hpl, hel⟩ := pathB_ok hp
  have hupl := upB_len p
  have hup := Lib.hid (upB_parts hp)
  obtain ⟨hLD, hlE⟩ := parts_last hp hne
  have hlast : (upB p).2.length ≤ maxLen := by have := (elementB_ok hlE).2.1; unfold maxLen; omega
  clear hlE
  have HLD := Lib.hid hLD
  have HT := Lib.hid hT
  have HV := Lib.hid ht
  have HS := Lib.hid hS
  have hb0 := (Below.refl w.heap.size w).alloc (Nat.le_refl _) (.cells #[.string (S p), .int .i64 k, .int .i64 md, .string (S dt)] 41)
  have h4 := Lib.hid (Cell4.new w ⟨p, k, md, dt⟩ 41)
  clear hT ht hS hel hLD
  have hmm := @run_makeMap Tryz.prog
  go_enter Tryz.func32, Tryz.ntmps32
  go_wp2_with fail
  refine (parentP_any p hne (by omega) _).mono ?_
  rintro e w1 ⟨rfl, hb1⟩
  have HB1 := Lib.hid (hb0.trans (hb1.mono hb0.size))
  have C1 := Lib.hid (h4.out.below hb1)
  clear hb0 hb1 h4
  generalize hq1 : (upB p).1 = up at hup hupl ⊢
  generalize hq2 : (upB p).2 = last at hlast hupl HLD ⊢
  clear hq1 hq2
  go_wp2_with fail
  refine (find_any (HT.out.below HB1.out) t (HV.out.below HB1.out) up (by omega) (HS.out.below HB1.out)).mono ?_
  rintro e w2 ⟨rfl, hb2⟩
  rw [hup.out]
  have HB2 := Lib.hid (HB1.out.trans (hb2.mono HB1.out.size))
  have C2 := Lib.hid (C1.out.below hb2)
  clear hb2 HB1 C1 hup
  generalize hD : (partsB p).dropLast = D at *
  cases hF : F D with
  | none =>
    have X := Lib.hid (isDirF_none hF)
    rw [atV_none hF]
    clear hF
    go_wp2
    go_ret
    exact .inl ⟨by rw [hD]; exact X.out, rfl, HB2.out, KeepC.below HB2.out⟩
  | some y =>
    rw [atV_some hF]
    have HT2 := Lib.hid (HT.out.below HB2.out)
    obtain ⟨_, n1, _, _, n4⟩ := HT2.out.cells D y hF
    by_cases hk1 : y.kind = 1
    · have X := Lib.hid ((isDirF_some hF).trans (decide_eq_true hk1))
      have f1 : (y.kind != 1) = false := by simpa using hk1
      rw [show mapV y (m D) = .map (some (m D)) from if_pos hk1] at n4
      obtain ⟨q0, q1, q2, q3⟩ := C2.out
      simp only at q0 q1 q2 q3
      have hlt0 : w.heap.size < w2.heap.size := World.block_lt_of_cell? w2 _ q0
      have hltD : a D < w2.heap.size := World.block_lt_of_cell? w2 _ n1
      have HK1 := Lib.hid hk1
      have HFy := Lib.hid hF
      have HHd := Lib.hid hD
      clear hk1 hF hD C2
      by_cases hkk : k = 1
      · subst hkk
        have hw1 : ∀ v : Value, Below w2.heap.size w2 ((w2.alloc (.cells #[.string (S []), .int .i64 1, .int .i64 md, .string (S dt), v] tNode)).alloc (.map #[] 0)) := fun v => ((Below.refl _ _).alloc (Nat.le_refl _) _).alloc (by simp) _
        have hnd : ∀ v : Value, ((w2.alloc (.cells #[.string (S []), .int .i64 1, .int .i64 md, .string (S dt), v] tNode)).alloc (.map #[] 0)).heap[w2.heap.size]? = some (Obj.cells #[.string (S []), .int .i64 1, .int .i64 md, .string (S dt), v] tNode (0, 0)) := fun v => by
          rw [heap_alloc_old _ _ (by simp), heap_alloc_new]
        have hlk := fun v => (HT2.out.below (hw1 v)).look D y HFy.out last hlast
        rw [show mapV y (m D) = .map (some (m D)) from if_pos HK1.out, ← HLD.out] at hlk
        have hz := fun v => ((HT2.out.dir D y HFy.out HK1.out).block ((hw1 v).block _ ((HT2.out.lt D y HFy.out).2 HK1.out)))
        have hmade : ∀ v : Value, MapIs ((w2.alloc (.cells #[.string (S []), .int .i64 1, .int .i64 md, .string (S dt), v] tNode)).alloc (.map #[] 0)) (w2.heap.size + 1) 0 (fun _ => none) := fun v => by
          have := MapIs.made (w2.alloc (.cells #[.string (S []), .int .i64 1, .int .i64 md, .string (S dt), v] tNode))
          rw [World.size_alloc] at this; exact this
        cases hW : F (partsB p) with
        | none =>
          have hdirL := isDirF_none hW
          rw [HLD.out] at hdirL
          rw [hW] at hlk
          have hlk1 := hlk (.map (some (w2.heap.size + 1)))
          replace hlk1 : (Instr.lookup tMap (.map (some (m D))) (.string (S last)) false).run Tryz.prog ((w2.alloc (.cells #[.string (S []), .int .i64 1, .int .i64 md, .string (S dt), .map (some (w2.heap.size + 1))] tNode)).alloc (.map #[] 0)) = .ok (.pointer none) _ := hlk1
          obtain ⟨w3, hrun, hm3, hg3⟩ := (hz (.map (some (w2.heap.size + 1)))).put last hlast w2.heap.size (by unfold maxLen; omega)
          have hfin := Lib.hid (put_end (x := ⟨p, 1, md, dt⟩) HT2.out t HV.out D last HLD.out X.out hB HB2.out (hw1 (.map (some (w2.heap.size + 1)))) (w2.heap.size + 1) (hnd _) (.inr (Nat.le_succ _)) (fun _ => ⟨fun e => (by rw [hdirL] at e; cases e), fun _ => ⟨Nat.le_succ _, hmade _⟩⟩) (hz _) hm3 hg3)
          clear hW hdirL hlk hz hmade hw1 hnd hm3 hg3
          go_wp2
          go_ret
          exact hfin.out
        | some z =>
          rw [hW] at hlk
          have hlk1 := hlk (.map (some (w2.heap.size + 1)))
          replace hlk1 : (Instr.lookup tMap (.map (some (m D))) (.string (S last)) false).run Tryz.prog ((w2.alloc (.cells #[.string (S []), .int .i64 1, .int .i64 md, .string (S dt), .map (some (w2.heap.size + 1))] tNode)).alloc (.map #[] 0)) = .ok (.pointer (some ⟨a (partsB p), 0, none⟩)) _ := hlk1
          obtain ⟨_, l1, _, _, l4⟩ := HT2.out.cells (partsB p) z hW
          have hltL : a (partsB p) < w2.heap.size := World.block_lt_of_cell? w2 _ l1
          by_cases hzk : z.kind = 1
          · have hdirL := (isDirF_some hW).trans (decide_eq_true hzk)
            rw [HLD.out] at hdirL
            have f3 : (z.kind == 1) = true := by simpa using hzk
            rw [show mapV z (m (partsB p)) = .map (some (m (partsB p))) from if_pos hzk] at l4
            obtain ⟨w3, hrun, hm3, hg3⟩ := (hz (.map (some (m (partsB p))))).put last hlast w2.heap.size (by unfold maxLen; omega)
            have hfin := Lib.hid (put_end (x := ⟨p, 1, md, dt⟩) HT2.out t HV.out D last HLD.out X.out hB HB2.out (hw1 (.map (some (m (partsB p))))) (m (partsB p)) (hnd _) (.inl (by rw [HLD.out])) (fun _ => ⟨fun _ => by rw [HLD.out], fun e => by rw [hdirL] at e; cases e⟩) (hz _) hm3 hg3)
            clear hW hdirL hlk hz hmade hw1 hnd hm3 hg3 hzk
            go_wp2
            go_ret
            exact hfin.out
          · have hdirL := (isDirF_some hW).trans (decide_eq_false hzk)
            rw [HLD.out] at hdirL
            have f3 : (z.kind == 1) = false := by simpa using hzk
            obtain ⟨w3, hrun, hm3, hg3⟩ := (hz (.map (some (w2.heap.size + 1)))).put last hlast w2.heap.size (by unfold maxLen; omega)
            have hfin := Lib.hid (put_end (x := ⟨p, 1, md, dt⟩) HT2.out t HV.out D last HLD.out X.out hB HB2.out (hw1 (.map (some (w2.heap.size + 1)))) (w2.heap.size + 1) (hnd _) (.inr (Nat.le_succ _)) (fun _ => ⟨fun e => (by rw [hdirL] at e; cases e), fun _ => ⟨Nat.le_succ _, hmade _⟩⟩) (hz _) hm3 hg3)
            clear hW hdirL hlk hz hmade hw1 hnd hm3 hg3 hzk l4
            go_wp2
            go_ret
            exact hfin.out
      · have f2 : (k == 1) = false := by simpa using hkk
        have h1 : Below w2.heap.size w2 (w2.alloc (.cells #[.string (S []), .int .i64 k, .int .i64 md, .string (S dt), .map none] tNode)) := (Below.refl _ _).alloc (Nat.le_refl _) _
        have hz := ((HT2.out.dir D y HFy.out HK1.out).block (h1.block _ ((HT2.out.lt D y HFy.out).2 HK1.out)))
        obtain ⟨w3, hrun, hm3, hg3⟩ := hz.put last hlast w2.heap.size (by unfold maxLen; omega)
        have hfin := Lib.hid (put_end (x := ⟨p, k, md, dt⟩) HT2.out t HV.out D last HLD.out X.out hB HB2.out h1 (m (D ++ [last])) (by
          rw [heap_alloc_new]; unfold nodeC mapV ndOf; simp only; rw [if_neg hkk]) (.inl rfl) (fun e => absurd e hkk) hz hm3 hg3)
        clear h1 hz hm3 hg3
        go_wp2
        go_ret
        exact hfin.out
    · have X := Lib.hid ((isDirF_some hF).trans (decide_eq_false hk1))
      have f1 : (y.kind != 1) = true := by simpa using hk1
      clear hF n4
      go_wp2
      go_ret
      exact .inl ⟨by rw [hD]; exact X.out, rfl, HB2.out, KeepC.below HB2.out⟩
theorem put_any {w : World} {B N : Nat} {a m : Pth → Nat} {F : Forest} (hT : TreeAt w B N a m F) (t : Nat) (ht : TreeV w t a) (x : Ent) (hp : pathB x.path = true) (hne : x.path ≠ []) (hN : N + 1 < 4294967290) (hB : B ≤ w.heap.size) (hS : Std w) :
    Calls Tryz.prog 32 #[.pointer (some ⟨t, 0, none⟩), x.agg] w (PutOut B N a m F t x w) :=
  (put_all hT t ht x hp hne hN hB hS).mono fun _ _ h => h.out
end Go.Proofs.YtpkabccinhfmbaaGreatDoor
namespace Go.Proofs.YtpkabccinhfmbaaGreatDoor
open Go.RowKit

def EmptyOut (W : World) (e : Ending) (w' : World) : Prop := ∃ t a m, e = .returned (.pointer (some ⟨t, 0, none⟩)) ∧ TreeAt w' W.heap.size 0 a m emptyF ∧ TreeV w' t a ∧ Below W.heap.size W w' ∧ W.heap.size ≤ t
set_option maxHeartbeats 1000000 in
theorem empty_any (w : World) : Calls Tryz.prog 28 #[] w (EmptyOut w) := by
  have hmm := @run_makeMap Tryz.prog
  go_enter Tryz.func28, Tryz.ntmps28
  go_wp2
  go_ret
  refine ⟨w.heap.size + 1 + 1, fun _ => w.heap.size + 1, fun _ => w.heap.size, rfl, ⟨emptyF_tree, ?_, ?_, ?_, ?_, ?_⟩, ?_, (((Below.refl _ _).alloc (Nat.le_refl _) _).alloc (by simp) _).alloc (by simp; omega) _, by omega⟩
  · intro p x hx
    unfold emptyF at hx
    split at hx
    · obtain rfl := Option.some.inj hx
      rw [heap_alloc_old _ _ (by simp)]
      have := heap_alloc_new (w.alloc (.map #[] 0)) (.cells (nodeC ⟨1, 493, []⟩ w.heap.size) tNode)
      rw [World.size_alloc] at this
      exact this
    · cases hx
  · intro p x hx hk
    have hm := MapIs.made w
    have e1 : kidsF emptyF (fun _ => w.heap.size + 1) p = fun _ => none := by
      funext f
      unfold kidsF emptyF
      rw [if_neg (show ¬ p ++ [f] = [] by simp)]; rfl
    rw [e1]
    exact hm.block (by rw [heap_alloc_old _ _ (by simp; omega), heap_alloc_old _ _ (by simp)])
  · intro p x hx; exact ⟨by omega, fun _ => Nat.le_refl _⟩
  · intro p q hp hq _
    unfold emptyF at hp hq
    split at hp
    · rename_i h1
      split at hq
      · rename_i h2; rw [h1, h2]
      · cases hq
    · cases hp
  · intro p q hp hq _
    unfold isDirF emptyF at hp hq
    by_cases h1 : p = []
    · by_cases h2 : q = []
      · rw [h1, h2]
      · rw [if_neg h2] at hq; cases hq
    · rw [if_neg h1] at hp; cases hp
  · unfold TreeV
    have := heap_alloc_new ((w.alloc (.map #[] 0)).alloc (.cells (nodeC ⟨1, 493, []⟩ w.heap.size) tNode)) (.cells #[.pointer (some ⟨w.heap.size + 1, 0, none⟩)] tTree)
    rw [World.size_alloc, World.size_alloc] at this
    exact cell_of_row _ _ _ _ _ _ this

def kindF (F : Forest) (p : Pth) : Int := match F p with | some x => x.kind | none => 0
set_option maxHeartbeats 1000000 in
theorem kind_any {w : World} {B N : Nat} {a m : Pth → Nat} {F : Forest} (hT : TreeAt w B N a m F) (t : Nat) (ht : TreeV w t a) (p : List UInt8) (hp : p.length ≤ 4294967280) (hS : Std w) :
    Calls Tryz.prog 177 #[.pointer (some ⟨t, 0, none⟩), .string (S p)] w fun e w' => e = .returned (.int .i64 (kindF F (partsB p))) ∧ Below w.heap.size w w' := by
  have HF := Lib.hid (find_any hT t ht p hp hS)
  have HT := Lib.hid hT
  clear hT ht hS
  go_enter Tryz.func177, Tryz.ntmps177
  go_wp2_with fail
  refine HF.out.mono ?_
  rintro e w1 ⟨rfl, hb⟩
  have HB := Lib.hid hb
  have HT1 := Lib.hid (HT.out.below hb)
  clear hb HF HT
  cases h : F (partsB p) with
  | none =>
    have X := Lib.hid (show kindF F (partsB p) = 0 by unfold kindF; rw [h])
    rw [atV_none h]
    clear h
    go_wp2
    go_ret
    exact ⟨by rw [X.out]; rfl, HB.out⟩
  | some x =>
    have X := Lib.hid (show kindF F (partsB p) = x.kind by unfold kindF; rw [h])
    rw [atV_some h]
    obtain ⟨_, c1, _, _, _⟩ := HT1.out.cells _ _ h
    clear h
    go_wp2
    go_ret
    exact ⟨by rw [X.out]; rfl, HB.out⟩
end Go.Proofs.YtpkabccinhfmbaaGreatDoor
namespace Go.Proofs.YtpkabccinhfmbaaGreatDoor
open Go.RowKit

/-- a change that has its place in an archive: bounds -/
def Small (c : Ent) : Prop := c.path.length ≤ 200 ∧ c.data.length ≤ 4096 ∧ 0 ≤ c.mode ∧ c.mode ≤ 511 ∧ (c.kind = 4 → 0 < (partsB c.path).length) ∧ (c.kind = 3 → c.data.length ≤ 100)
theorem inB_len (a b : List UInt8) : (inB a b).length ≤ a.length + b.length + 1 := by
  unfold inB; split <;> simp <;> omega
theorem namB_len (c : Ent) : (namB c).length ≤ 2 * c.path.length + 20 := by
  have h := upB_len c.path
  unfold namB; split
  · simp; omega
  · split
    · have := inB_len (upB c.path).1 ([46, 119, 104, 46] ++ (upB c.path).2); simp only [List.length_append, List.length_cons, List.length_nil] at this; omega
    · split
      · have := inB_len c.path [46, 119, 104, 46, 46, 119, 104, 46, 46, 111, 112, 113]; simp at this; omega
      · omega
theorem splB_len (s : List UInt8) : (splB s).1.length ≤ s.length ∧ (splB s).2.length ≤ s.length := by
  unfold splB; split
  · simp
  · split
    · simp; omega
    · simp
theorem filB_len' (s : List UInt8) (n : Nat) : (filB s n).length ≤ s.length + n := by simp [filB] <;> omega
theorem digB_len' (v n : Nat) : (digB v n).length ≤ (octB v).length + n + 1 := by simp [digB]; omega

def packsB (l : List Ent) : List UInt8 := (l.map entB).flatten
theorem packsB_take (l : List Ent) (k : Nat) (h : k < l.length) : packsB (l.take (k + 1)) = packsB (l.take k) ++ entB l[k] := by
  rw [List.take_succ_eq_append_getElem h]; simp only [packsB, List.map_append, List.flatten_append, List.map_cons, List.map_nil, List.flatten_cons, List.flatten_nil, List.append_nil]
theorem packsB_le (l : List Ent) (k : Nat) : (packsB (l.take k)).length ≤ (packsB l).length := by
  have e : packsB l = packsB (l.take k) ++ packsB (l.drop k) := by
    unfold packsB; rw [← List.flatten_append, ← List.map_append, List.take_append_drop]
  rw [e]; simp

end Go.Proofs.YtpkabccinhfmbaaGreatDoor
namespace Go.Proofs.YtpkabccinhfmbaaGreatDoor
open Go.RowKit

abbrev tBld : TypeId := 97
abbrev tByte : TypeId := 5
/-- a builder of the call's own, holding a text -/
abbrev Bld (B b : Nat) (l : List UInt8) (w : World) : Prop := Lib.IsBuilder tBld tByte B b (Lib.byteCells l) w

/-- all blocks stay but bytes' and builders' -/
def KeepBy (w w' : World) : Prop := ∀ T, T ≠ tByte → T ≠ tBld → KeepT T w w'
theorem KeepBy.refl (w : World) : KeepBy w w := fun T _ _ => KeepT.refl T w
theorem KeepBy.trans {a b c : World} (h : KeepBy a b) (k : KeepBy b c) : KeepBy a c := fun T h1 h2 => (h T h1 h2).trans (k T h1 h2)
theorem KeepBy.below {w w' : World} (h : Below w.heap.size w w') : KeepBy w w' := fun T _ _ => KeepT.below h
theorem Bld.after {B b : Nat} {l : List UInt8} {w w' : World} (h : Bld B b l w) (hb : Below w.heap.size w w') : Bld B b l w' := by
  rcases h with h | h
  · have hl := h.lt
    obtain ⟨h1, v, h2, h3, h4⟩ := h
    exact .inl ⟨h1, v, (hb.block b hl).trans h2, ownsRow_below h3 hb, h4⟩
  · have hl := h.lt
    obtain ⟨h1, v, h2, h3, h4⟩ := h
    exact .inr ⟨h1, v, (hb.block b hl).trans h2, ownsRow_below h3 hb, h4⟩
theorem Bld.lt {B b : Nat} {l : List UInt8} {w : World} (h : Bld B b l w) : b < w.heap.size := by
  rcases h with h | h <;> exact h.lt
theorem Bld.new (B : Nat) (w : World) (hB : B ≤ w.heap.size) : Bld B w.heap.size [] (w.alloc (.cells #[.pointer none, .slice none 0 0] tBld)) :=
  .inl ⟨hB, .slice none 0 0, heap_alloc_new w _, World.ownsRow_nil _ _ _ _, by simp [Value.ownBlock]⟩

theorem bld_size : (Tryz.prog.info? tBld).map (·.size) = some 2 := by kernel_rfl
theorem bld_lies : liesAt Tryz.prog Tryz.prog.depth tBld (2 / Tryz.prog.cellsOf tBld) 0 tBld 1 = true := by kernel_rfl

set_option maxHeartbeats 1000000 in
set_option maxRecDepth 100000 in
theorem copyCheck_used (b : Nat) (w : World) (h0 : w.cell? ⟨b, 0, none⟩ = some (.pointer (some ⟨b, 0, none⟩))) :
    Calls Tryz.prog 59 #[.pointer (some ⟨b, 0, none⟩)] w fun e w' => e = .returned (.tuple #[]) ∧ w' = w := by
  obtain ⟨j, hj, _⟩ := Option.map_eq_some_iff.1 bld_size
  go_enter Tryz.func59, Tryz.ntmps59
  go_wp2
  rw [Lib.run_neq_ptr_same w _ Tryz.underlying94 hj]
  go_wp2
  go_end0
  exact ⟨rfl, rfl⟩
set_option maxHeartbeats 1000000 in
set_option maxRecDepth 100000 in
theorem copyCheck_fresh (b : Nat) (w : World) (h0 : w.cell? ⟨b, 0, none⟩ = some (.pointer none)) (hsh : w.shape? b = some (tBld, 2)) (hfz : w.frozen? ⟨b, 0, none⟩ = false) :
    Calls Tryz.prog 59 #[.pointer (some ⟨b, 0, none⟩)] w fun e w' => e = .returned (.tuple #[]) ∧ w' = w.setCell ⟨b, 0, none⟩ (.pointer (some ⟨b, 0, none⟩)) := by
  obtain ⟨j, hj, hjs⟩ := Option.map_eq_some_iff.1 bld_size
  have hx := @run_callFunc_extern Tryz.prog 76 _ Extern.AbiNoEscape.same Tryz.func76 (by kernel_rfl) (by kernel_rfl) (by kernel_rfl) (by kernel_rfl)
  have hn : ∀ x : Value, (Extern.AbiNoEscape.same #[x]).run Tryz.prog w = .ok x w := fun x => Lib.run_noEscape w x
  have hc1 := Lib.run_to_unsafe w ⟨b, 0, none⟩ Tryz.underlying94 Tryz.underlying80 hj (by rw [hjs]; decide) hsh (Nat.zero_lt_succ 1)
  have hc2 := Lib.run_from_unsafe w ⟨b, 0, none⟩ Tryz.underlying80 Tryz.underlying94 hj hsh bld_lies
  go_enter Tryz.func59, Tryz.ntmps59
  go_wp2
  go_end0
  exact ⟨rfl, rfl⟩
theorem copyCheck_any {B b : Nat} {bs : List Value} {w : World} (h : Lib.IsBuilder tBld tByte B b bs w) :
    Calls Tryz.prog 59 #[.pointer (some ⟨b, 0, none⟩)] w fun e w' => e = .returned (.tuple #[]) ∧ Lib.BuilderAt tBld tByte B b (.pointer (some ⟨b, 0, none⟩)) bs w' ∧ Below B w w' ∧ w'.heap.size = w.heap.size ∧ KeepBy w w' := by
  rcases h with h | h
  · refine (copyCheck_fresh b w h.cell0 h.shape h.frozen0).mono ?_
    rintro e w' ⟨rfl, rfl⟩
    refine ⟨rfl, h.used _, (Below.refl B w).setCell (p := ⟨b, 0, none⟩) h.1 _, by simp, fun T _ h2 => ?_⟩
    obtain ⟨_, v, hb, _⟩ := h
    exact KeepT.setCell hb (fun e => h2 e.symm) 0 _
  · refine (copyCheck_used b w h.cell0).mono ?_
    rintro e w' ⟨rfl, rfl⟩
    exact ⟨rfl, h, Below.refl B _, rfl, KeepBy.refl _⟩

set_option maxHeartbeats 2000000 in
set_option maxRecDepth 100000 in
theorem writeString_any {B b : Nat} {l s : List UInt8} {w : World} (h : Bld B b l w) (hlen : l.length + s.length ≤ 4000000000) (hBw : B ≤ w.heap.size) :
    Calls Tryz.prog 41 #[.pointer (some ⟨b, 0, none⟩), .string (S s)] w fun e w' => e = .returned (.tuple #[.int .i64 s.length, .nilIface]) ∧ Bld B b (l ++ s) w' ∧ Below B w w' ∧ KeepBy w w' := by
  obtain ⟨i0, hi, hz0, hz1, hz2⟩ := info_parts (show (Tryz.prog.info? tByte).map (fun i => (i.zero, i.size, i.bytes)) = some (some (.int .u8 0), 1, 1) by kernel_rfl)
  have hll : (Lib.byteCells l).length = l.length := Lib.byteCells_length l
  have HS := Lib.hid hBw
  have HH := Lib.hid h
  have hss : (S s).size = s.length := S_size s
  clear h hBw
  go_enter Tryz.func41, Tryz.ntmps41
  go_wp2_with fail
  refine (copyCheck_any HH.out).mono ?_
  rintro e1 w1 ⟨rfl, h1, hb1, hs1, hk1⟩
  have HK1 := Lib.hid hk1
  clear hk1
  obtain ⟨hB, v, hbk, hown, hne⟩ := h1
  have HS1 := Lib.hid hs1
  have HB := Lib.hid hB
  have HBK := Lib.hid hbk
  have HO := Lib.hid hown
  have HN := Lib.hid hne
  have c0 : w1.cell? ⟨b, 0, none⟩ = some (.pointer (some ⟨b, 0, none⟩)) := by rw [Lib.cell_of_heap hbk]; rfl
  have c1 : w1.cell? ⟨b, 1, none⟩ = some v := by rw [Lib.cell_of_heap hbk]; rfl
  have f1 : w1.frozen? ⟨b, 1, none⟩ = false := Lib.frozen_of_heap hbk 1
  have hlt : b < w1.heap.size := World.block_lt_of_cell? w1 _ c0
  clear hB hbk hown hne hs1
  go_wp2_with (at_builtin; refine Lib.wpList_append_own_string _ rfl _ _ 95 9 rfl B tByte i0 Tryz.underlying95 Tryz.underlying9 hi hz0 hz1 hz2 _ _ _ rfl HO.out (S s) rfl (by rw [hll, hss]; unfold maxLen; omega) (by rw [hll, hss]; omega) (by have := HS1.out; have := HS.out; omega) ?_; intro v' w2 hown2 hgr2 _; have HO2 := Lib.hid hown2; have HG2 := Lib.hid hgr2; obtain ⟨g, cap, rfl⟩ := ownsRow_form hown2; have hb2 : w2.heap[b]? = some (.cells #[.pointer (some ⟨b, 0, none⟩), v] tBld (0, 0)) := (by rw [hgr2.block b hlt (fun e => HN.out e.symm)]; exact HBK.out); have HB2 := Lib.hid hb2; have d1 : w2.cell? ⟨b, 1, none⟩ = some v := (by rw [Lib.cell_of_heap hb2]; rfl); have f2 : w2.frozen? ⟨b, 1, none⟩ = false := Lib.frozen_of_heap hb2 1; clear hown2 hgr2 hb2)
  go_ret2
  refine ⟨by simp, .inr ?_, ?_, fun T ht1 ht2 => ?_⟩
  · refine Lib.BuilderAt.put (T := tBld) (e := tByte) HB.out HB2.out (bs' := Lib.byteCells (l ++ s)) ?_ (by decide)
    have h3 := HO2.out
    have e1 : Lib.strCells (S s) = Lib.byteCells s := rfl
    rw [hll, hss, e1] at h3
    rw [show Lib.byteCells (l ++ s) = Lib.byteCells l ++ Lib.byteCells s from by unfold Lib.byteCells; rw [List.map_append], List.length_append, hll, Lib.byteCells_length]
    exact h3
  · exact (hb1.grown HG2.out (by have := HS1.out; have := HS.out; omega) (fun k hk => (HO.out.lt k hk).1)).setCell (p := ⟨b, 1, none⟩) HB.out _
  · exact (HK1.out T ht1 ht2).trans ((KeepT.grown HG2.out HO.out (fun e => ht1 e.symm)).trans (KeepT.setCell HB2.out (fun e => ht2 e.symm) 1 _))
theorem bldString_any {B b : Nat} {l : List UInt8} {w : World} (h : Bld B b l w) (hBw : B ≤ w.heap.size) :
    Calls Tryz.prog 43 #[.pointer (some ⟨b, 0, none⟩)] w fun e w' => e = .returned (.string (S l)) ∧ Below B w w' :=
  (Tryz.Builder_String_any B b l w h hBw).mono fun e w' h => h
end Go.Proofs.YtpkabccinhfmbaaGreatDoor
