/-
  The program: layers.Patch and plain.Patch, at any two lists; the law.
-/
import Derived.Test.YtafokdidpbainaaGreatDoorY01
import Derived.Test.YtafokdidpbainaaGreatDoorY13
import Derived.Test.YtafokdidpbainaaGreatDoorY14
import Derived.Test.YtafokdidpbainaaGreatDoorY18
import Derived.Test.YtafokdidpbainaaGreatDoorY19
set_option linter.unusedVariables false
set_option linter.unusedSimpArgs false
namespace Go.Proofs.YtafokdidpbainaaGreatDoor
open Go.RowKit

theorem none_barred' {l : List Ent} (h : First (barR l) l.length (-1)) : l.length ≤ 80 ∧ ∀ c ∈ l, Fit c := by
  obtain h | ⟨_, h⟩ := h
  · obtain ⟨i, _, h1, _⟩ := h; omega
  refine ⟨Classical.byContradiction fun hn => ?_, fun c hc => ?_⟩
  · have h80 := h 80 (by omega)
    have hc : l[80]? = some l[80] := List.getElem?_eq_getElem (by omega)
    rw [barR_shape hc (by simp [shapeR])] at h80; cases h80
  · obtain ⟨i, hi, rfl⟩ := List.getElem_of_mem hc
    exact barR_fit (List.getElem?_eq_getElem hi) (h i hi)
/-- what Patch answers, from outside -/
def patAll (a l : List Ent) (rx ry : Int) : List Ent × Int × Int := if rx ≠ -1 then ([], 2, rx) else if ry ≠ -1 then ([], 3, ry) else patchL a l
theorem patchL_place (a l : List Ent) : (patchL a l).2.2 = -1 ∨ 0 ≤ (patchL a l).2.2 := by
  unfold patchL
  split
  · right; simp
  · split
    · right; simp
    · split <;> simp
/-- what layers.Patch answers -/
def PatL (R : List Ent × Int × Int) (W : World) (e : Ending) (w' : World) : Prop :=
  ∃ v er, e = .returned (.tuple #[v, er]) ∧ OwnE w' W.heap.size v R.1 ∧ ErrOut W w' er R.2.1 R.2.2 ∧ Below W.heap.size W w'
set_option maxHeartbeats 4000000 in
theorem patL_any (a l : List Ent) (A B : Option Addr) (capA capB : Nat) (w : World) (hw : Std w) (ha : Rd w A (ents a)) (hb : Rd w B (ents l)) (hla : a.length ≤ 2000000000) (hll : l.length ≤ 2000000000)
    (hsa : ∀ e ∈ a, e.path.length ≤ 2000000000 ∧ e.data.length ≤ 2000000000) (hsl : ∀ e ∈ l, e.path.length ≤ 2000000000 ∧ e.data.length ≤ 2000000000) (rx ry : Int) (hx : First (wrongP a) a.length rx) (hy : First (barR l) l.length ry) :
    Calls Tryz.prog 33 #[.slice A a.length capA, .slice B l.length capB] w (PatL (patAll a l rx ry) w) := by
  have HW := Lib.hid hw
  have HOf := Lib.hid (of_any a A capA w hw ha hla hsa)
  have HBr := Lib.hid hb
  have HX := Lib.hid hx
  have HY := Lib.hid hy
  have HSl := Lib.hid hsl
  clear hw ha hb hsa hsl hx hy
  go_enter Tryz.func33, Tryz.ntmps33
  go_wp2_with fail
  refine HOf.out.mono ?_
  rintro e w1 ⟨r', hf, hb1, ho⟩
  obtain rfl := First.uniq HX.out hf (fun _ _ _ _ => rfl)
  have HB1 := Lib.hid hb1
  clear HOf hf hb1
  rcases ho with ⟨hr, t, a1, m1, rfl, hT, hV⟩ | ⟨k, hr, rfl⟩
  · have HT := Lib.hid hT
    have HV := Lib.hid hV
    clear hT hV
    obtain ⟨ha40, hLi⟩ := none_wrong (hr ▸ HX.out)
    have HLi := Lib.hid hLi
    have HRx := Lib.hid hr
    clear hr hLi
    go_wp2_with fail
    refine (valid_any l B capB w1 (HW.out.below HB1.out) (HBr.out.below HB1.out) hll HSl.out).mono ?_
    rintro e w2 ⟨r', rfl, hf, hb2⟩
    obtain rfl := bars_same HY.out hf
    have HB2 := Lib.hid (HB1.out.trans (hb2.mono HB1.out.size))
    have HT2 := Lib.hid (HT.out.below hb2)
    have HV2 := Lib.hid (HV.out.below hb2)
    clear hf hb2 HB1 HT HV
    rcases HY.out with ⟨k, hk, rfl, _⟩ | ⟨rfl, _⟩
    · have HE := Lib.hid (show patAll a l rx (k : Int) = ([], 3, (k : Int)) by unfold patAll; rw [if_neg (by rw [HRx.out]; decide), if_pos (by omega)])
      clear HY
      go_wp2_with fail
      refine (at_out 3 k w _ (by decide) (.inr (by omega))).mono ?_
      rintro e w3 ⟨er, rfl, ho, hb3⟩
      have HO := Lib.hid ho
      have HB3 := Lib.hid (HB2.out.trans (hb3.mono HB2.out.size))
      clear ho hb3
      go_wp2
      go_ret2
      exact ⟨_, _, rfl, by rw [HE.out]; exact World.ownsRow_nil _ _ _ _, by rw [HE.out]; exact HO.out, HB3.out⟩
    · obtain ⟨hl80, hfit⟩ := none_barred' HY.out
      have HFit := Lib.hid hfit
      have HE := Lib.hid (show patAll a l rx (-1) = patchL a l by unfold patAll; rw [if_neg (by rw [HRx.out]; decide), if_neg (by decide)])
      clear hfit HY
      go_wp2_with fail
      refine (patchP_any HT2.out (by omega) (HW.out.below HB2.out) t HV2.out a l HLi.out (by omega) B capB (HBr.out.below HB2.out) (by omega) HFit.out).mono ?_
      rintro e w3 ⟨hb3, ⟨f, k, hp, hf, rfl⟩ | ⟨t', a', m', N', G, L, hp, hLG, hL40, hT3, hV3, hN', rfl⟩⟩
      · have HB3 := Lib.hid (HB2.out.trans (hb3.mono HB2.out.size))
        have HP := Lib.hid (HE.out.trans hp)
        have hkk := patchL_place a l
        rw [hp] at hkk
        have f0 : (f != 0) = true := by rw [bne_iff_ne]; exact hf
        have HF := Lib.hid hf
        have HKk := Lib.hid hkk
        clear hb3 hp hf HE hkk
        go_wp2_with fail
        refine (at_out f k w _ HF.out HKk.out).mono ?_
        rintro e w4 ⟨er, rfl, ho, hb4⟩
        have HO := Lib.hid ho
        have HB4 := Lib.hid (HB3.out.trans (hb4.mono HB3.out.size))
        clear ho hb4
        go_wp2
        go_ret2
        exact ⟨_, _, rfl, by rw [HP.out]; exact World.ownsRow_nil _ _ _ _, by rw [HP.out]; exact HO.out, HB4.out⟩
      · have HB3 := Lib.hid (HB2.out.trans (hb3.mono HB2.out.size))
        have HP := Lib.hid (HE.out.trans hp)
        have HT3 := Lib.hid hT3
        have HV3 := Lib.hid hV3
        have HLG := Lib.hid hLG
        clear hb3 hp HE hT3 hV3 hLG
        go_wp2_with fail
        refine (list_any HT3.out HLG.out.fine (by omega) (HW.out.below HB3.out) t' HV3.out L (HLG.out.walk HT3.out.tree) (by omega) _ HLG.out.root).mono ?_
        rintro e w4 ⟨v, rfl, hown, hb4⟩
        have HB4 := Lib.hid (HB3.out.trans (hb4.mono HB3.out.size))
        have HO := Lib.hid (ownsRow_base hown HB3.out.size)
        clear hown hb4
        go_wp2
        go_ret2
        exact ⟨_, _, rfl, by rw [HP.out]; exact HO.out, by rw [HP.out]; exact .inl ⟨rfl, rfl, rfl⟩, HB4.out⟩
  · have HE := Lib.hid (show patAll a l rx ry = ([], 2, rx) by unfold patAll; rw [if_pos (by omega)])
    subst hr
    go_wp2_with fail
    refine (at_out 2 k w _ (by decide) (.inr (by omega))).mono ?_
    rintro e w3 ⟨er, rfl, ho, hb3⟩
    have HO := Lib.hid ho
    have HB3 := Lib.hid (HB1.out.trans (hb3.mono HB1.out.size))
    clear ho hb3
    go_wp2
    go_ret2
    exact ⟨_, _, rfl, by rw [HE.out]; exact World.ownsRow_nil _ _ _ _, by rw [HE.out]; exact HO.out, HB3.out⟩
set_option maxHeartbeats 4000000 in
theorem patPl_any (a l : List Ent) (A B : Option Addr) (capA capB : Nat) (w : World) (hw : Std w) (hg : ErrT w) (ha : Rd w A (ents a)) (hb : Rd w B (ents l)) (hla : a.length ≤ 2000000000) (hll : l.length ≤ 2000000000)
    (hsa : ∀ e ∈ a, e.path.length ≤ 2000000000 ∧ e.data.length ≤ 2000000000) (hsl : ∀ e ∈ l, e.path.length ≤ 2000000000 ∧ e.data.length ≤ 2000000000) (rx ry : Int) (hx : First (wrongP a) a.length rx) (hy : First (barR l) l.length ry) :
    Calls Tryz.prog 14 #[.slice A a.length capA, .slice B l.length capB] w fun e w' => ∃ v, e = .returned (.tuple #[v, .int .i64 (patAll a l rx ry).2.1, .int .i64 (patAll a l rx ry).2.2]) ∧ OwnE w' w.heap.size v (patAll a l rx ry).1 ∧ Below w.heap.size w w' := by
  have HL := Lib.hid (patL_any a l A B capA capB w hw ha hb hla hll hsa hsl rx ry hx hy)
  have HG := Lib.hid hg
  clear hw hg ha hb hsa hsl hx hy
  obtain ⟨R, hR⟩ : ∃ R, patAll a l rx ry = R := ⟨_, rfl⟩
  rw [hR] at HL ⊢
  clear hR
  obtain ⟨R0, R1, R2⟩ := R
  go_enter Tryz.func14, Tryz.ntmps14
  go_wp2_with fail
  refine HL.out.mono ?_
  rintro e w1 ⟨v, er, rfl, hown, ho, hb1⟩
  obtain ⟨av, cv, rfl⟩ := ownsRow_form hown
  have HO := Lib.hid ho
  have HOw := Lib.hid hown
  have HB := Lib.hid hb1
  clear ho hown hb1 HL
  go_wp2_with fail
  refine (tell_out er R1 R2 w w1 (HG.out.below HB.out) HO.out).mono ?_
  rintro e w2 ⟨rfl, hb2⟩
  have HB2 := Lib.hid (HB.out.trans (hb2.mono HB.out.size))
  have HOw2 := Lib.hid (ownsRow_below HOw.out hb2)
  clear hb2
  go_wp2
  go_ret3
  exact ⟨_, rfl, HOw2.out, HB2.out⟩
end Go.Proofs.YtafokdidpbainaaGreatDoor
