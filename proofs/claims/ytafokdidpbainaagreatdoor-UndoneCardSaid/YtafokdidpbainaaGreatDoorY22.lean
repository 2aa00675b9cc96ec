/-
  The law Undone, at any two lists of raw things.
-/
import Derived.Test.YtafokdidpbainaaGreatDoorY13
import Derived.Test.YtafokdidpbainaaGreatDoorY15
import Derived.Test.YtafokdidpbainaaGreatDoorY16
import Derived.Test.YtafokdidpbainaaGreatDoorY20
import Derived.Test.YtafokdidpbainaaGreatDoorY21
set_option linter.unusedVariables false
set_option linter.unusedSimpArgs false
namespace Go.Proofs.YtafokdidpbainaaGreatDoor
open Go.RowKit

theorem tree_take {l : List Ent} {k : Nat} (hk : k ≤ l.length) (h : ∀ j, j < k → wrongP l j = false) : IsTree (treeOf (l.take k)) := by
  induction k with
  | zero => exact emptyF_tree
  | succ k ih =>
    have hlt : k < l.length := hk
    have hT := ih (by omega) (fun j hj => h j (by omega))
    have hw := h k (by omega)
    rw [wrongP_eq (List.getElem?_eq_getElem hlt)] at hw
    simp only [Bool.or_eq_false_iff, Bool.not_eq_false'] at hw
    obtain ⟨⟨⟨⟨⟨_, h2⟩, h3⟩, h4⟩, h5⟩, h6⟩ := hw
    have hne : l[k].path ≠ [] := fun e => by rw [e] at h2; cases h2
    rw [treeOf_take l k hlt]
    have hp := (parts_last h3 hne).1
    rw [hp]
    exact putF_tree hT _ _ _ h6
theorem RawOk.first {out : List Ent} (h : RawOk 17 out) : First (wrongP out) out.length (-1) ∧ IsTree (treeOf out) := by
  have hp : ∀ j, j < out.length → wrongP out j = false := by
    intro j
    induction j using Nat.strongRecOn with
    | ind j ih => intro hj; rw [wrong_same hj (fun q hq => ih q hq (by omega))]; exact h.right j hj
  refine ⟨.inr ⟨rfl, hp⟩, ?_⟩
  have := tree_take (k := out.length) (Nat.le_refl _) hp
  rwa [List.take_length] at this
theorem good_len {c : Ent} (h : goodB c = true) : c.data.length ≤ 4096 := by
  unfold goodB at h
  split at h
  · simp only [Bool.and_eq_true, List.isEmpty_iff] at h; rw [h.2]; simp
  · split at h
    · simp only [Bool.and_eq_true, decide_eq_true_eq] at h; exact h.2
    · split at h
      · simp only [targetB, Bool.and_eq_true, decide_eq_true_eq] at h; omega
      · cases h
theorem lists_small {l : List Ent} {F : Forest} (h : Lists l F) : ∀ e ∈ l, e.path.length ≤ 2000000000 ∧ e.data.length ≤ 2000000000 := by
  intro e he
  obtain ⟨h1, _, h3⟩ := h.each e he
  have := (pathB_ok h1).1; have := good_len h3
  omega
theorem diff_small {a b : List Ent} {F G : Forest} (ha : Lists a F) (hb : Lists b G) : ∀ e ∈ diffL a b, e.path.length ≤ 2000000000 ∧ e.data.length ≤ 2000000000 := by
  intro c hc
  obtain ⟨h1, hk⟩ := mem_diff ha hb hc
  have := (pathB_ok h1).1
  refine ⟨by omega, ?_⟩
  rcases hk with ⟨hne, x, hx, e⟩ | ⟨_, e⟩ | ⟨_, _, e⟩
  · have hg := good_in hb hne (c := c) (by rw [hx.1]; congr 1; rw [e]; rfl)
    have := good_len hg; omega
  · rw [e]; simp
  · rw [e]; simp
/-- a row of entries or changes reads -/
theorem rd_ownU {w : World} {base : Nat} {e : TypeId} {size : Nat} {A : Option Addr} {n cap : Nat} {xs : List Value} (h : w.ownsRow base e size (.slice A n cap) n xs) : Rd w A xs := by
  obtain ⟨A', cap', e, _, _, r⟩ := Rd.of_own h
  cases e; exact r
theorem difAll_ok (a b : List Ent) : difAll a b (-1) (-1) = (diffL a b, 0, -1) := by unfold difAll; rw [if_neg (by decide), if_neg (by decide)]
theorem patAll_ok (a l : List Ent) : patAll a l (-1) (-1) = patchL a l := by unfold patAll; rw [if_neg (by decide), if_neg (by decide)]
set_option maxRecDepth 100000 in
set_option maxHeartbeats 8000000 in
theorem undone_any (one two : List (Int × Int × Int × List UInt8)) (A B : Option Addr) (capA capB : Nat) (w : World) (hw : Std w) (hg : ErrT w) (ha : Rd w A (things one)) (hb : Rd w B (things two)) (hla : one.length ≤ 9223372036854775807) (hlb : two.length ≤ 9223372036854775807)
    (hsa : ∀ t ∈ one, t.2.2.2.length ≤ 9223372036854775807) (hsb : ∀ t ∈ two, t.2.2.2.length ≤ 9223372036854775807)
    (hia : ∀ t ∈ one, (-9223372036854775808 ≤ t.1 ∧ t.1 ≤ 9223372036854775807) ∧ (-9223372036854775808 ≤ t.2.1 ∧ t.2.1 ≤ 9223372036854775807) ∧ (-9223372036854775808 ≤ t.2.2.1 ∧ t.2.2.1 ≤ 9223372036854775807))
    (hib : ∀ t ∈ two, (-9223372036854775808 ≤ t.1 ∧ t.1 ≤ 9223372036854775807) ∧ (-9223372036854775808 ≤ t.2.1 ∧ t.2.1 ≤ 9223372036854775807) ∧ (-9223372036854775808 ≤ t.2.2.1 ∧ t.2.2.1 ≤ 9223372036854775807)) :
    Calls Tryz.prog 5 #[.slice A one.length capA, .slice B two.length capB] w fun e w' => e = .returned (.bool true) ∧ Below w.heap.size w w' := by
  have HW := Lib.hid hw
  have HG := Lib.hid hg
  have HT1 := Lib.hid (rawTree_any one A capA w ha hla hsa hia)
  have HT2 := Lib.hid (fun (wx : World) (h : Below w.heap.size w wx) => rawTree_any two B capB wx (hb.below h) hlb hsb hib)
  clear hw hg ha hb hsa hsb hia hib
  go_enter Tryz.func5, Tryz.ntmps5
  go_wp2_with fail
  refine HT1.out.mono ?_
  rintro e w1 ⟨v, rfl, a, hown, hra, hb1⟩
  obtain ⟨av, ac, rfl⟩ := ownsRow_form hown
  obtain ⟨hx, hTa⟩ := hra.first
  have HX := Lib.hid hx
  have HTa := Lib.hid hTa
  have HLa := Lib.hid hra.lists
  have hal := hra.len
  have HSa := Lib.hid (lists_small hra.lists)
  have HB1 := Lib.hid hb1
  have HRa := Lib.hid (rd_ownU hown)
  clear hown hra hb1 hx hTa HT1
  go_wp2_with fail
  refine (HT2.out w1 HB1.out).mono ?_
  rintro e w2 ⟨v, rfl, b, hown, hrb, hb2⟩
  obtain ⟨bv, bc, rfl⟩ := ownsRow_form hown
  obtain ⟨hy, hTb⟩ := hrb.first
  have HY := Lib.hid hy
  have HTb := Lib.hid hTb
  have HLb := Lib.hid hrb.lists
  have hbl := hrb.len
  have HSb := Lib.hid (lists_small hrb.lists)
  have HB2 := Lib.hid (HB1.out.trans (hb2.mono HB1.out.size))
  have HRb := Lib.hid (rd_ownU hown)
  have HRa2 := Lib.hid (HRa.out.below hb2)
  clear hown hrb hb2 hy hTb HT2 HB1 HRa
  -- what makes b of a, done on a
  have HD1 := Lib.hid (difPl_any a b av bv ac bc w2 (HW.out.below HB2.out) (HG.out.below HB2.out) HRa2.out HRb.out (by omega) (by omega) HSa.out HSb.out (-1) (-1) HX.out HY.out)
  rw [difAll_ok] at HD1
  have hdl1 := diff_len2 HLa.out HLb.out
  have hdl2 := diff_len2 HLb.out HLa.out
  go_wp2_with fail
  refine HD1.out.mono ?_
  rintro e w3 ⟨v, rfl, hown, hb3⟩
  obtain ⟨dv, dc, rfl⟩ := ownsRow_form hown
  have HB3 := Lib.hid (HB2.out.trans (hb3.mono HB2.out.size))
  have HRd := Lib.hid (rd_ownU hown)
  have HRa3 := Lib.hid (HRa2.out.below hb3)
  have HRb3 := Lib.hid (HRb.out.below hb3)
  clear hown hb3 HD1 HB2 HRa2 HRb
  have HP1 := Lib.hid (patPl_any a (diffL a b) av dv ac dc w3 (HW.out.below HB3.out) (HG.out.below HB3.out) HRa3.out HRd.out (by omega) (by omega) HSa.out (diff_small HLa.out HLb.out) (-1) (-1) HX.out (diff_barred HLa.out HLb.out HTb.out (by omega)))
  rw [patAll_ok, diff_done HLa.out HLb.out HTa.out HTb.out (by omega)] at HP1
  go_wp2_with fail
  refine HP1.out.mono ?_
  rintro e w4 ⟨v, rfl, hown, hb4⟩
  obtain ⟨tv, tc, rfl⟩ := ownsRow_form hown
  have HB4 := Lib.hid (HB3.out.trans (hb4.mono HB3.out.size))
  have HRt := Lib.hid (rd_ownU hown)
  have HRa4 := Lib.hid (HRa3.out.below hb4)
  have HRb4 := Lib.hid (HRb3.out.below hb4)
  clear hown hb4 HP1 HB3 HRa3 HRb3 HRd
  go_wp2_with fail
  refine (sameK_any b tv bv tc bc w4 HRt.out HRb4.out (by omega)).mono ?_
  rintro e w5 ⟨rfl, hb5⟩
  have HB5 := Lib.hid (HB4.out.trans (hb5.mono HB4.out.size))
  have HRt5 := Lib.hid (HRt.out.below hb5)
  have HRa5 := Lib.hid (HRa4.out.below hb5)
  have HRb5 := Lib.hid (HRb4.out.below hb5)
  clear hb5 HB4 HRt HRa4 HRb4
  -- and back
  have HD2 := Lib.hid (difPl_any b a bv av bc ac w5 (HW.out.below HB5.out) (HG.out.below HB5.out) HRb5.out HRa5.out (by omega) (by omega) HSb.out HSa.out (-1) (-1) HY.out HX.out)
  rw [difAll_ok] at HD2
  go_wp2_with fail
  refine HD2.out.mono ?_
  rintro e w6 ⟨v, rfl, hown, hb6⟩
  obtain ⟨dv2, dc2, rfl⟩ := ownsRow_form hown
  have HB6 := Lib.hid (HB5.out.trans (hb6.mono HB5.out.size))
  have HRd2 := Lib.hid (rd_ownU hown)
  have HRa6 := Lib.hid (HRa5.out.below hb6)
  have HRt6 := Lib.hid (HRt5.out.below hb6)
  clear hown hb6 HD2 HB5 HRa5 HRb5 HRt5
  have HP2 := Lib.hid (patPl_any b (diffL b a) tv dv2 tc dc2 w6 (HW.out.below HB6.out) (HG.out.below HB6.out) HRt6.out HRd2.out (by omega) (by omega) HSb.out (diff_small HLb.out HLa.out) (-1) (-1) HY.out (diff_barred HLb.out HLa.out HTa.out (by omega)))
  rw [patAll_ok, diff_done HLb.out HLa.out HTb.out HTa.out (by omega)] at HP2
  go_wp2_with fail
  refine HP2.out.mono ?_
  rintro e w7 ⟨v, rfl, hown, hb7⟩
  obtain ⟨uv, uc, rfl⟩ := ownsRow_form hown
  have HB7 := Lib.hid (HB6.out.trans (hb7.mono HB6.out.size))
  have HRu := Lib.hid (rd_ownU hown)
  have HRa7 := Lib.hid (HRa6.out.below hb7)
  clear hown hb7 HP2 HB6 HRa6 HRt6 HRd2
  go_wp2_with fail
  refine (sameK_any a uv av uc ac w7 HRu.out HRa7.out (by omega)).mono ?_
  rintro e w8 ⟨rfl, hb8⟩
  have HB8 := Lib.hid (HB7.out.trans (hb8.mono HB7.out.size))
  have HRa8 := Lib.hid (HRa7.out.below hb8)
  clear hb8 HB7 HRa7 HRu
  have HD3 := Lib.hid (difPl_any a a av av ac ac w8 (HW.out.below HB8.out) (HG.out.below HB8.out) HRa8.out HRa8.out (by omega) (by omega) HSa.out HSa.out (-1) (-1) HX.out HX.out)
  rw [difAll_ok, diff_self HLa.out] at HD3
  go_wp2_with fail
  refine HD3.out.mono ?_
  rintro e w9 ⟨v, rfl, hown, hb9⟩
  obtain ⟨nv, nc, rfl⟩ := ownsRow_form hown
  have HB9 := Lib.hid (HB8.out.trans (hb9.mono HB8.out.size))
  clear hown hb9 HD3 HB8 HRa8 HX HY HTa HTb HLa HLb HSa HSb HW HG
  go_wp2
  go_ret
  exact ⟨rfl, HB9.out⟩
end Go.Proofs.YtafokdidpbainaaGreatDoor
