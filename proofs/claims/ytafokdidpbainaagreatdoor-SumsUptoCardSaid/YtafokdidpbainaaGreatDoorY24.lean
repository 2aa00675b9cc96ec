/-
  The program: the sum of a tree; layers.Sum and plain.Sum, at any list. The document's Sum.
  The law Sums, at any list.
-/
import Derived.Test.YtafokdidpbainaaGreatDoorY17
import Derived.Test.YtafokdidpbainaaGreatDoorY19
import Derived.Test.YtafokdidpbainaaGreatDoorY22
import Derived.Test.YtafokdidpbainaaGreatDoorY23
set_option linter.unusedVariables false
set_option linter.unusedSimpArgs false
namespace Go.Proofs.YtafokdidpbainaaGreatDoor
open Go.RowKit

set_option maxRecDepth 100000 in
set_option maxHeartbeats 4000000 in
theorem treeSum_any {w : World} {B N : Nat} {a m : Pth → Nat} {F : Forest} (hT : TreeAt w B N a m F) {l : List Ent} (hLi : Lists l F) (hl : l.length ≤ 1000000) (hN : N ≤ 1000000) (t : Nat) (hV : TreeV w t a) (htab : Tabs w) :
    Calls Tryz.prog 36 #[.pointer (some ⟨t, 0, none⟩)] w fun e w' => e = .returned (.string (S (sumT l))) ∧ Below w.heap.size w w' := by
  have HS := Lib.hid (sumG_any hT hLi hl hN 13 [] rfl _ hLi.root w (Below.refl _ _) htab)
  have HE := Lib.hid (sumT_same hLi)
  have c1 : w.cell? ⟨t, 0, none⟩ = some (.pointer (some ⟨a [], 0, none⟩)) := hV
  clear hT hLi hV htab
  go_enter Tryz.func36, Tryz.ntmps36
  go_wp2_with fail
  refine HS.out.mono ?_
  rintro e w1 ⟨rfl, hb⟩
  go_wp2
  go_ret
  exact ⟨ret_str (by rw [HE.out]), hb⟩
/-- what Sum answers, from outside -/
noncomputable def sumAll (l : List Ent) (rx : Int) : List UInt8 × Int × Int := if rx ≠ -1 then ([], 2, rx) else (sumT l, 0, -1)
set_option maxHeartbeats 4000000 in
theorem sumLy_any (l : List Ent) (A : Option Addr) (cap : Nat) (w : World) (hw : Std w) (htab : Tabs w) (ha : Rd w A (ents l)) (hla : l.length ≤ 2000000000)
    (hsa : ∀ e ∈ l, e.path.length ≤ 2000000000 ∧ e.data.length ≤ 2000000000) (rx : Int) (hx : First (wrongP l) l.length rx) :
    Calls Tryz.prog 16 #[.slice A l.length cap] w fun e w' => ∃ er, e = .returned (.tuple #[.string (S (sumAll l rx).1), er]) ∧ ErrOut w w' er (sumAll l rx).2.1 (sumAll l rx).2.2 ∧ Below w.heap.size w w' := by
  have HT0 := Lib.hid htab
  have HOf := Lib.hid (of_any l A cap w hw ha hla hsa)
  have HX := Lib.hid hx
  clear hw ha hsa hx htab
  go_enter Tryz.func16, Tryz.ntmps16
  go_wp2_with fail
  refine HOf.out.mono ?_
  rintro e w1 ⟨r', hf, hb1, ho⟩
  obtain rfl := First.uniq HX.out hf (fun _ _ _ _ => rfl)
  have HB1 := Lib.hid hb1
  clear HOf hf hb1
  rcases ho with ⟨hr, t, a1, m1, rfl, hT, hV⟩ | ⟨k, hr, rfl⟩
  · obtain ⟨ha40, hLi⟩ := none_wrong (hr ▸ HX.out)
    have HE := Lib.hid (show sumAll l rx = (sumT l, 0, -1) by unfold sumAll; rw [if_neg (by rw [hr]; decide)])
    have HS := Lib.hid (treeSum_any hT hLi (by omega) (by omega) t hV (HT0.out.below HB1.out))
    clear hr hT hV hLi
    go_wp2_with fail
    refine HS.out.mono ?_
    rintro e w2 ⟨rfl, hb2⟩
    have HB2 := Lib.hid (HB1.out.trans (hb2.mono HB1.out.size))
    clear hb2
    go_wp2
    go_ret2
    exact ⟨_, by rw [HE.out]; rfl, by rw [HE.out]; exact .inl ⟨rfl, rfl, rfl⟩, HB2.out⟩
  · have HE := Lib.hid (show sumAll l rx = ([], 2, rx) by unfold sumAll; rw [if_pos (by omega)])
    subst hr
    go_wp2_with fail
    refine (at_out 2 k w _ (by decide) (.inr (by omega))).mono ?_
    rintro e w3 ⟨er, rfl, ho, hb3⟩
    have HO := Lib.hid ho
    have HB3 := Lib.hid (HB1.out.trans (hb3.mono HB1.out.size))
    clear ho hb3
    go_wp2
    go_ret2
    exact ⟨_, by rw [HE.out]; rfl, by rw [HE.out]; exact HO.out, HB3.out⟩
set_option maxHeartbeats 4000000 in
theorem sumPl_any (l : List Ent) (A : Option Addr) (cap : Nat) (w : World) (hw : Std w) (hg : ErrT w) (htab : Tabs w) (ha : Rd w A (ents l)) (hla : l.length ≤ 2000000000)
    (hsa : ∀ e ∈ l, e.path.length ≤ 2000000000 ∧ e.data.length ≤ 2000000000) (rx : Int) (hx : First (wrongP l) l.length rx) :
    Calls Tryz.prog 6 #[.slice A l.length cap] w fun e w' => e = .returned (.tuple #[.string (S (sumAll l rx).1), .int .i64 (sumAll l rx).2.1, .int .i64 (sumAll l rx).2.2]) ∧ Below w.heap.size w w' := by
  have HL := Lib.hid (sumLy_any l A cap w hw htab ha hla hsa rx hx)
  have HG := Lib.hid hg
  clear hw hg ha hsa hx htab
  obtain ⟨R, hR⟩ : ∃ R, sumAll l rx = R := ⟨_, rfl⟩
  rw [hR] at HL ⊢
  clear hR
  obtain ⟨R0, R1, R2⟩ := R
  go_enter Tryz.func6, Tryz.ntmps6
  go_wp2_with fail
  refine HL.out.mono ?_
  rintro e w1 ⟨er, rfl, ho, hb1⟩
  have HO := Lib.hid ho
  have HB := Lib.hid hb1
  clear ho hb1 HL
  go_wp2_with fail
  refine (tell_out er R1 R2 w w1 (HG.out.below HB.out) HO.out).mono ?_
  rintro e w2 ⟨rfl, hb2⟩
  have HB2 := Lib.hid (HB.out.trans (hb2.mono HB.out.size))
  clear hb2
  go_wp2
  go_ret3
  exact ⟨rfl, HB2.out⟩
-- the document
set_option maxHeartbeats 1000000 in
theorem root_any (w : World) : Calls Tryz.prog 19 #[] w fun e w' => e = .returned (.agg #[.string (S []), .int .i64 1, .int .i64 493, .string (S [])]) ∧ Below w.heap.size w w' := by
  go_enter Tryz.func19, Tryz.ntmps19
  go_wp2
  refine bodyPost_ret (show (results Tryz.f19 _).run Tryz.prog _ = .ok (.agg #[.string (S []), .int .i64 1, .int .i64 493, .string (S [])]) _ from (by simp [results, Tryz.f19, go_sem])) rfl ?_
  exact ⟨rfl, (Below.refl _ _).alloc (Nat.le_refl _) _⟩
set_option maxHeartbeats 1000000 in
theorem sumRef_any (l : List Ent) (F : Forest) (hLi : Lists l F) (hT : IsTree F) (hl : l.length ≤ 1000000) (A : Option Addr) (cap : Nat) (w : World) (hr : Rd w A (ents l)) :
    Calls Tryz.prog 7 #[.slice A l.length cap] w fun e w' => e = .returned (.string (S (sumT l))) ∧ Below w.heap.size w w' := by
  have HS := Lib.hid (fun (wx : World) (hb : Below w.heap.size w wx) => sumR_any hLi hT hl A cap 13 ⟨[], 1, 493, []⟩ wx (by rw [show partsB ([] : List UInt8) = [] from rfl, hLi.root]; rfl) rfl ⟨.inl rfl, ⟨493, rfl, by decide⟩, by decide, by decide⟩ (hr.below hb))
  have HE := Lib.hid (show sumL l 13 ⟨[], 1, 493, []⟩ = sumT l from rfl)
  clear hr hLi hT
  go_enter Tryz.func7, Tryz.ntmps7
  go_wp2_with fail
  refine (root_any _).mono ?_
  rintro e w1 ⟨rfl, hb1⟩
  have HB1 := Lib.hid hb1
  clear hb1
  go_wp2_with fail
  refine (HS.out _ HB1.out).mono ?_
  rintro e w2 ⟨rfl, hb2⟩
  have HB2 := Lib.hid (HB1.out.trans (hb2.mono HB1.out.size))
  clear hb2
  go_wp2
  go_ret
  exact ⟨ret_str (by rw [HE.out]), HB2.out⟩
end Go.Proofs.YtafokdidpbainaaGreatDoor
namespace Go.Proofs.YtafokdidpbainaaGreatDoor
open Go.RowKit

theorem tree_takeS {l : List Ent} {k : Nat} (hk : k ≤ l.length) (h : ∀ j, j < k → wrongP l j = false) : IsTree (treeOf (l.take k)) := by
  induction k with
  | zero => exact emptyF_tree
  | succ k ih =>
    have hlt : k < l.length := hk
    have hT := ih (by omega) (fun j hj => h j (by omega))
    have hw := h k (by omega)
    rw [wrongP_eq (List.getElem?_eq_getElem hlt)] at hw
    simp only [Bool.or_eq_false_iff, Bool.not_eq_false'] at hw
    obtain ⟨⟨⟨⟨⟨_, h2⟩, h3⟩, h4⟩, h5⟩, h6⟩ := hw
    have hne : l[k].path ≠ [] := fun e => by rw [e] at h2; cases h2
    rw [treeOf_take l k hlt]
    have hp := (parts_last h3 hne).1
    rw [hp]
    exact putF_tree hT _ _ _ h6
theorem first_tree {l : List Ent} (h : First (wrongP l) l.length (-1)) : IsTree (treeOf l) := by
  obtain h | ⟨_, h⟩ := h
  · obtain ⟨i, _, h1, _⟩ := h; omega
  · have := tree_takeS (k := l.length) (Nat.le_refl _) h
    rwa [List.take_length] at this
theorem sum_none : First (wrongP []) ([] : List Ent).length (-1) := .inr ⟨rfl, fun j hj => by simp at hj⟩
set_option maxRecDepth 100000 in
set_option maxHeartbeats 8000000 in
theorem sums_any (l : List Ent) (A : Option Addr) (cap : Nat) (w : World) (hw : Std w) (hg : ErrT w) (htab : Tabs w) (ha : Rd w A (ents l)) (hla : l.length ≤ 2000000000)
    (hc1 : l.length ≤ cap) (hc2 : cap ≤ maxLen)
    (hsa : ∀ e ∈ l, e.path.length ≤ 2000000000 ∧ e.data.length ≤ 2000000000) :
    Calls Tryz.prog 3 #[.slice A l.length cap] w fun e w' => e = .returned (.bool true) ∧ Below w.heap.size w w' := by
  obtain ⟨rx, hx⟩ := First.exists' (wrongP l) l.length
  have HW := Lib.hid hw
  have HG := Lib.hid hg
  have HTb := Lib.hid htab
  have HRa := Lib.hid ha
  have HSa := Lib.hid hsa
  have HX := Lib.hid hx
  clear hw hg ha hsa hx htab
  have HP := Lib.hid (sumPl_any [] none 0 w HW.out HG.out HTb.out (.inl rfl) (by decide) (by simp) (-1) sum_none)
  rw [show sumAll [] (-1) = (sumT [], 0, -1) by unfold sumAll; rw [if_neg (by decide)]] at HP
  have HR0 := Lib.hid (fun (wx : World) => sumRef_any [] emptyF Lists.nil emptyF_tree (by decide) none 0 wx (.inl rfl))
  have hl64 : (sumT []).length = 64 := sumL_len _ _ _ (by decide)
  generalize sumT [] = s0 at HP HR0 hl64
  go_enter Tryz.func3, Tryz.ntmps3
  go_wp2_with fail
  refine HP.out.mono ?_
  rintro e w1 ⟨rfl, hb1⟩
  have HB1 := Lib.hid hb1
  clear hb1 HP
  go_wp2_with fail
  refine (HR0.out _).mono ?_
  rintro e w2 ⟨rfl, hb2⟩
  have HB2 := Lib.hid (HB1.out.trans (hb2.mono HB1.out.size))
  clear hb2 HB1 HR0
  have HP := Lib.hid (sumPl_any l A cap w2 (HW.out.below HB2.out) (HG.out.below HB2.out) (HTb.out.below HB2.out) (HRa.out.below HB2.out) hla HSa.out rx HX.out)
  go_wp2_with fail
  refine HP.out.mono ?_
  rintro e w3 ⟨rfl, hb3⟩
  obtain ⟨R, hR⟩ : ∃ R, sumAll l rx = R := ⟨_, rfl⟩
  rw [hR]
  have HRr := Lib.hid hR
  clear hR HP
  obtain ⟨R0, R1, R2⟩ := R
  have HB3 := Lib.hid (HB2.out.trans (hb3.mono HB2.out.size))
  clear hb3 HB2
  go_wp2_with fail
  refine (wrongR_any l A cap w3 (HRa.out.below HB3.out) hla hc1 hc2 HSa.out).mono ?_
  rintro e w4 ⟨rx', rfl, hf, hb4⟩
  obtain rfl := wrongs_same HX.out hf
  have HB4 := Lib.hid (HB3.out.trans (hb4.mono HB3.out.size))
  clear hf hb4 HB3
  rcases HX.out with ⟨k, hk, rfl, _⟩ | ⟨rfl, _⟩
  · have hR := HRr.out
    unfold sumAll at hR
    rw [if_pos (by omega)] at hR
    obtain ⟨rfl, rfl, rfl⟩ : [] = R0 ∧ 2 = R1 ∧ (k : Int) = R2 := by simpa using hR
    clear HX HRr hR
    go_wp2
    go_ret
    exact ⟨rfl, HB4.out⟩
  · have hR := HRr.out
    unfold sumAll at hR
    rw [if_neg (by decide)] at hR
    obtain ⟨rfl, rfl, rfl⟩ : sumT l = R0 ∧ 0 = R1 ∧ -1 = R2 := by simpa using hR
    obtain ⟨ha40, hLi⟩ := none_wrong HX.out
    have hTr := first_tree HX.out
    have HRf := Lib.hid (sumRef_any l (treeOf l) hLi hTr (by omega) A cap w4 (HRa.out.below HB4.out))
    have hl2 : (sumT l).length = 64 := sumL_len _ _ _ (by decide)
    clear hLi HX HRr hR
    generalize sumT l = s1 at *
    go_wp2_with fail
    refine HRf.out.mono ?_
    rintro e w5 ⟨rfl, hb5⟩
    have HB5 := Lib.hid (HB4.out.trans (hb5.mono HB4.out.size))
    clear hb5 HB4
    go_wp2
    go_ret
    exact ⟨rfl, HB5.out⟩
end Go.Proofs.YtafokdidpbainaaGreatDoor
