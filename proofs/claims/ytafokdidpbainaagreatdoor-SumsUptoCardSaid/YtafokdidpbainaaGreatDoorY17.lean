/-
  The document's answer: the number of the first entry that is wrong.
-/
import Derived.Deep.DeepCutAuto
import Derived.StillTailTactics
import Derived.Deep.RegionWith
import Derived.BigRegion
import Derived.Test.YtafokdidpbainaaGreatDoorY01
import Derived.Test.YtafokdidpbainaaGreatDoorY02
import Derived.Test.YtafokdidpbainaaGreatDoorY10
set_option linter.unusedVariables false
set_option linter.unusedSimpArgs false
namespace Go.Proofs.YtafokdidpbainaaGreatDoor
open Go.RowKit

theorem ents_append (a b : List Ent) : ents (a ++ b) = ents a ++ ents b := by
  induction a with
  | nil => rfl
  | cons e r ih => simp only [List.cons_append, ents, ih, List.append_assoc]
theorem Rd.ents_take {w : World} {A : Option Addr} {l : List Ent} (h : Rd w A (ents l)) (m : Nat) : Rd w A (ents (l.take m)) := by
  have e : ents l = ents (l.take m) ++ ents (l.drop m) := by rw [← ents_append, List.take_append_drop]
  rw [e] at h; exact h.pre
/-- is an entry at a path? -/
def atL (l : List Ent) (p : List UInt8) (i : Nat) : Bool := match l[i]? with | some e => decide (e.path = p) | none => false
theorem kindL_at {l : List Ent} {p : List UInt8} (hp : p ≠ []) {i : Nat} (hi : i < l.length) (h : atL l p i = true) (hb : ∀ j, j < i → atL l p j = false) : kindL l p = (l[i]'hi).kind := by
  unfold kindL
  rw [if_neg hp]
  have : l.find? (fun e => decide (e.path = p)) = some l[i] := by
    rw [List.find?_eq_some_iff_getElem]
    refine ⟨?_, i, hi, rfl, fun j hj => ?_⟩
    · unfold atL at h; rw [List.getElem?_eq_getElem hi] at h; exact h
    · have := hb j hj
      unfold atL at this; rw [List.getElem?_eq_getElem (by omega)] at this; simpa using this
  rw [this]
theorem kindL_none {l : List Ent} {p : List UInt8} (hp : p ≠ []) (hb : ∀ j, j < l.length → atL l p j = false) : kindL l p = 0 := by
  unfold kindL
  rw [if_neg hp]
  have : l.find? (fun e => decide (e.path = p)) = none := by
    rw [List.find?_eq_none]
    intro e he
    obtain ⟨j, hj, rfl⟩ := List.getElem_of_mem he
    have := hb j hj
    unfold atL at this; rw [List.getElem?_eq_getElem hj] at this; simpa using this
  rw [this]
set_option maxHeartbeats 2000000 in
theorem at_any (l : List Ent) (p : List UInt8) (A : Option Addr) (cap : Nat) (w : World) (hr : Rd w A (ents l)) (hl : l.length ≤ 2000000000) (hs : ∀ e ∈ l, e.path.length ≤ 2000000000) (hp : p.length ≤ 2000000000) :
    Calls Tryz.prog 27 #[.slice A l.length cap, .string (S p)] w fun e w' => (∃ r, e = .returned (.int .i64 r) ∧ First (atL l p) l.length r) ∧ w = w' := by
  go_enter Tryz.func27, Tryz.ntmps27
  go_wp2
  go_loopw [5] (fun i wr => ∃ k : Nat, k ≤ l.length ∧ i = .int .i64 k ∧ Hid (∀ j, j < k → atL l p j = false) ∧ w = wr) (fun i _ => l.length - (intOf i).toNat)
  case atStart => exact ⟨0, Nat.zero_le _, rfl, fun j hj => by omega, rfl⟩
  case round =>
    obtain ⟨k, hk, rfl, hpre, rfl⟩ := hrel
    by_cases hlt : k < l.length
    · obtain ⟨b, o, rfl, hbb, g0, g1, g2, g3⟩ := ents_at hr (Below.refl _ _) k hlt
      obtain ⟨c, hcc⟩ : ∃ c, l[k] = c := ⟨_, rfl⟩
      have hsp := hs c (hcc ▸ List.getElem_mem hlt)
      rw [hcc] at g0 g1 g2 g3
      have HK := Lib.hid (show atL l p k = decide (c.path = p) by unfold atL; rw [List.getElem?_eq_getElem hlt, hcc])
      clear hcc
      have hways : (c.path == p) = true ∨ (c.path == p) = false := by cases (c.path == p) <;> simp
      rcases hways with h | h
      · have HB := Lib.hid (show atL l p k = true by rw [HK.out]; simpa using h)
        go_wp2
        go_ret
        exact ⟨⟨k, rfl, .inl ⟨k, hlt, rfl, HB.out, hpre.out⟩⟩, rfl⟩
      · have HB := Lib.hid (show ∀ j, j < k + 1 → atL l p j = false by
          intro j hj
          rcases Nat.lt_or_ge j k with h' | h'
          · exact hpre.out j h'
          · obtain rfl : j = k := by omega
            rw [HK.out]; simpa using h)
        go_wp2
        go_roundw
        case rel => exact ⟨k + 1, by omega, by go_num, HB, trivial⟩
        case measure => simp [intOf]; omega
    · obtain rfl : k = l.length := by omega
      go_wp2
      go_ret
      exact ⟨⟨-1, rfl, .inr ⟨rfl, hpre.out⟩⟩, rfl⟩
set_option maxHeartbeats 2000000 in
theorem kindR_any (l : List Ent) (p : List UInt8) (A : Option Addr) (cap : Nat) (w : World) (hr : Rd w A (ents l)) (hl : l.length ≤ 2000000000) (hs : ∀ e ∈ l, e.path.length ≤ 2000000000) (hp : p.length ≤ 2000000000) :
    Calls Tryz.prog 24 #[.slice A l.length cap, .string (S p)] w fun e w' => e = .returned (.int .i64 (kindL l p)) ∧ w = w' := by
  go_enter Tryz.func24, Tryz.ntmps24
  by_cases h0 : p = []
  · subst h0
    go_wp2
    go_ret
    exact ⟨rfl, rfl⟩
  · have fp : p.isEmpty = false := by rw [List.isEmpty_eq_false_iff]; exact h0
    have H0 := Lib.hid h0
    clear h0
    go_wp2_with fail
    refine (at_any l p A cap _ hr hl hs hp).mono ?_
    rintro e w1 ⟨⟨r, rfl, hF⟩, rfl⟩
    rcases hF with ⟨i, hi, rfl, h1, h2⟩ | ⟨rfl, h2⟩
    · obtain ⟨b, o, rfl, hbb, g0, g1, g2, g3⟩ := ents_at hr (Below.refl _ _) i hi
      have X := Lib.hid (kindL_at H0.out hi h1 h2)
      generalize (l[i]'hi).kind = q at *
      clear h1 h2
      go_wp2
      go_ret
      exact ⟨by rw [X.out]; rfl, rfl⟩
    · have X := Lib.hid (kindL_none H0.out h2)
      clear h2
      go_wp2
      go_ret
      exact ⟨by rw [X.out]; rfl, rfl⟩
set_option maxRecDepth 100000 in
set_option maxHeartbeats 8000000 in
theorem wrongR_any (l : List Ent) (A : Option Addr) (cap : Nat) (w : World) (hr : Rd w A (ents l)) (hl : l.length ≤ 2000000000) (hc1 : l.length ≤ cap) (hc2 : cap ≤ maxLen) (hs : ∀ e ∈ l, e.path.length ≤ 2000000000 ∧ e.data.length ≤ 2000000000) :
    Calls Tryz.prog 8 #[.slice A l.length cap] w fun e w' => ∃ r, e = .returned (.int .i64 r) ∧ First (wrongR l) l.length r ∧ Below w.heap.size w w' := by
  go_enter Tryz.func8, Tryz.ntmps8
  go_wp2
  replace hr := Lib.hid hr
  replace hs := Lib.hid hs
  go_loopw [3] (fun i wr => ∃ k : Nat, k ≤ l.length ∧ i = .int .i64 k ∧ Hid (∀ j, j < k → wrongR l j = false) ∧ Below w.heap.size w wr) (fun i _ => l.length - (intOf i).toNat)
  case atStart => exact ⟨0, Nat.zero_le _, rfl, fun j hj => by omega, Below.refl _ _⟩
  case round =>
    obtain ⟨k, hk, rfl, hpre, hbel⟩ := hrel
    by_cases hlt : k < l.length
    · obtain ⟨b, o, rfl, hbb, g0, g1, g2, g3⟩ := ents_at hr.out hbel k hlt
      obtain ⟨c, hcc⟩ : ∃ c, l[k] = c := ⟨_, rfl⟩
      obtain ⟨hsp, hsd⟩ := hs.out c (hcc ▸ List.getElem_mem hlt)
      have HK := Lib.hid (show l[k]? = some c by rw [List.getElem?_eq_getElem hlt, hcc])
      have FX := Lib.hid (fun (wx : World) (hb : Below w.heap.size w wx) => by
        have h := ents_at hr.out hb k hlt
        rw [hcc] at h
        obtain ⟨b', o', hAA, _, y0, y1, y2, y3⟩ := h
        obtain ⟨rfl, rfl⟩ : b' = b ∧ o' = o := by cases hAA; exact ⟨rfl, rfl⟩
        exact (⟨y0, y1, y2, y3⟩ : wx.cell? ⟨b', o' + k * 4, none⟩ = some (.string (S c.path)) ∧ wx.cell? ⟨b', o' + k * 4 + 1, none⟩ = some (.int .i64 c.kind) ∧ wx.cell? ⟨b', o' + k * 4 + 2, none⟩ = some (.int .i64 c.mode) ∧ wx.cell? ⟨b', o' + k * 4 + 3, none⟩ = some (.string (S c.data))))
      rw [hcc] at g0 g1 g2 g3
      have HB0 := Lib.hid hbel
      clear hcc hbel
      have hkl : (k : Int) < (l.length : Int) := by omega
      go_upto_region 6 with (first
        | (go_at_call 20; refine (isPath_any c.path _ (by omega)).mono ?_; rintro e1 w1 ⟨rfl, hb1⟩; have HB1 := Lib.hid (HB0.out.trans (hb1.mono HB0.out.size)); clear g0 g1 g2 g3; obtain ⟨g0, g1, g2, g3⟩ := FX.out _ HB1.out; clear hb1 HB0)
        | (go_at_call 21; refine (goodR_any c _ (by omega)).mono ?_; rintro e2 w2 ⟨rfl, hb2⟩; have HB2 := Lib.hid (HB1.out.trans (hb2.mono HB1.out.size)); clear g0 g1 g2 g3; obtain ⟨g0, g1, g2, g3⟩ := FX.out _ HB2.out; clear hb2 HB1))
      obtain ⟨P, hP⟩ : ∃ P, pathB c.path = P := ⟨_, rfl⟩
      obtain ⟨G, hG⟩ : ∃ G, goodB c = G := ⟨_, rfl⟩
      rw [hP, hG]
      obtain ⟨T, hT0⟩ : ∃ T, (decide (k = 40) || !pathB c.path || !goodB c || c.path.isEmpty) = T := ⟨_, rfl⟩
      have HT0 := Lib.hid hT0
      have HT2 := Lib.hid (show T = (decide (k = 40) || !P || !G || c.path.isEmpty) by rw [← hT0, hP, hG])
      have HP := Lib.hid hP
      clear hP hG hT0
      go_cut [44] (fun v wx => v = .bool T ∧ w2 = wx)
      case first =>
        by_cases i40 : k = 40
        · have f40 : ((k : Int) == 40) = true := by rw [beq_iff_eq]; omega
          obtain rfl : T = true := by rw [HT2.out, decide_eq_true i40]; rfl
          clear i40 HT2
          go_wp2
          go_meet
          exact ⟨rfl, rfl⟩
        have f40 : ((k : Int) == 40) = false := by rw [beq_eq_false_iff_ne]; omega
        cases P
        · obtain rfl : T = true := by rw [HT2.out, decide_eq_false i40]; rfl
          clear i40 HT2
          go_wp2
          go_meet
          exact ⟨rfl, rfl⟩
        cases G
        · obtain rfl : T = true := by rw [HT2.out, decide_eq_false i40]; rfl
          clear i40 HT2
          go_wp2
          go_meet
          exact ⟨rfl, rfl⟩
        have X : c.path.isEmpty = T := by rw [HT2.out, decide_eq_false i40]; simp
        clear i40 HT2
        go_wp2
        go_meet
        exact ⟨rfl, rfl⟩
      case rest =>
        obtain ⟨rfl, rfl⟩ := hcut
        cases hTv : T
        case true =>
          have HW := Lib.hid (show wrongR l k = true by rw [wrongR_eq HK.out, HT0.out, hTv]; simp)
          subst hTv
          clear HT0 HT2
          go_wp2
          go_ret
          exact ⟨k, rfl, .inl ⟨k, hlt, rfl, HW.out, hpre.out⟩, HB2.out⟩
        case false =>
          subst hTv
          have hPt : pathB c.path = true ∧ c.path ≠ [] := by
            have h := HT0.out
            simp only [Bool.or_eq_false_iff, Bool.not_eq_false'] at h
            refine ⟨h.1.1.2, fun e => ?_⟩
            rw [e] at h; exact absurd h.2 (by decide)
          have hp170 : c.path.length ≤ 170 := by
            have h := hPt.1
            simp only [pathB, Bool.and_eq_true, decide_eq_true_eq] at h
            exact h.1.1
          have HU0 := Lib.hid (show 0 < (partsB c.path).length from List.length_pos_iff.2 (partsB_ne hPt.2))
          have hu1 := (upB_len c.path).1
          have hT : (l.take k).length = k := by rw [List.length_take]; omega
          have hkc : (k : Int) ≤ (cap : Int) := by omega
          clear hPt HT2
          by_cases k0 : k = 0
          · have HNo := Lib.hid (show (false || (match l[k - 1]? with | some x => decide (0 < k) && decide (0 ≤ orderL (partsB x.path) (partsB c.path)) | none => false) || !true) = false by
              rw [k0]; cases l[0 - 1]? <;> rfl)
            have hk1 : ¬ ((0 : Int) < (k : Int)) := by omega
            have HBA := HB2
            clear k0

            -- the directory above it
            go_upto_region 13 with (go_at_call 23; refine (upR_any c.path _ (by omega) HU0.out).mono ?_; rintro e3 w3 ⟨rfl, hb3⟩; have HB3 := Lib.hid (HBA.out.trans (hb3.mono HBA.out.size)); clear hb3)
            have HKd := Lib.hid (kindR_any (l.take k) (upB c.path).1 (some ⟨b, o, none⟩) cap w3 ((hr.out.below HB3.out).ents_take k) (by rw [hT]; omega) (fun e he => (hs.out e (List.take_subset _ _ he)).1) (by omega))
            rw [hT] at HKd
            obtain ⟨z, hz⟩ : ∃ z, kindL (l.take k) (upB c.path).1 = z := ⟨_, rfl⟩
            rw [hz] at HKd
            have HZk := Lib.hid hz
            clear hz
            go_wp2_with fail
            refine (HKd.out).mono ?_
            rintro e4 w4 ⟨rfl, rfl⟩
            have hz2 : (z != 1) = true ∨ (z != 1) = false := by cases (z != 1) <;> simp
            rcases hz2 with h | h
            · have HW := Lib.hid (show wrongR l k = true by rw [wrongR_eq HK.out, HZk.out]; rw [decide_eq_false (bne_iff_ne.1 h)]; simp)
              clear HKd
              go_wp2
              go_ret
              exact ⟨k, rfl, .inl ⟨k, hlt, rfl, HW.out, hpre.out⟩, HB3.out⟩
            · have hz1 : z = 1 := by simpa using h
              have HW := Lib.hid (show wrongR l k = false by rw [wrongR_eq HK.out, HZk.out, HT0.out, decide_eq_true hz1]; exact HNo.out)
              clear hz1
              have HPr := Lib.hid (show ∀ j, j < k + 1 → wrongR l j = false by
                intro j hj
                rcases Nat.lt_or_ge j k with h' | h'
                · exact hpre.out j h'
                · obtain rfl : j = k := by omega
                  exact HW.out)
              clear HKd
              go_wp2
              go_roundw
              case rel => exact ⟨k + 1, by omega, by go_num, HPr, HB3.out⟩
              case measure => simp [intOf]; omega
          · obtain ⟨m, hkm⟩ : ∃ m, k = m + 1 := ⟨k - 1, by omega⟩
            have hml : m < l.length := by omega
            obtain ⟨x, hx⟩ : ∃ x, l[m] = x := ⟨_, rfl⟩
            have hxp := (hs.out x (hx ▸ List.getElem_mem hml)).1
            have HX := Lib.hid (show l[k - 1]? = some x by rw [show k - 1 = m by omega, List.getElem?_eq_getElem hml, hx])
            have y0 : w2.cell? ⟨b, o + m * 4, none⟩ = some (.string (S x.path)) := by
              obtain ⟨b', o', hAA, _, y0, _⟩ := ents_at hr.out HB2.out m hml
              obtain ⟨rfl, rfl⟩ : b' = b ∧ o' = o := by cases hAA; exact ⟨rfl, rfl⟩
              rw [hx] at y0; exact y0
            have hk1 : (0 : Int) < (k : Int) := by omega
            have hm2 : (m : Int) < (l.length : Int) := by omega
            have hm3 : (0 : Int) ≤ (m : Int) := by omega
            have hwr : IntKind.i64.wrap ((k : Int) - 1) = (m : Int) := by rw [IntKind.wrap_i64]; omega
            obtain ⟨z, hz⟩ : ∃ z, orderL (partsB x.path) (partsB c.path) = z := ⟨_, rfl⟩
            have HZ := Lib.hid hz
            have HK0 := Lib.hid (show 0 < k by omega)
            clear hkm hx hz k0
            have hz2 : 0 ≤ z ∨ ¬ (0 ≤ z) := Classical.em _
            rcases hz2 with hzz | hzz
            · have HW := Lib.hid (show wrongR l k = true by rw [wrongR_eq HK.out, HX.out]; show (_ || (decide (0 < k) && decide (0 ≤ orderL (partsB x.path) (partsB c.path))) || _) = true; rw [HZ.out, decide_eq_true hzz, decide_eq_true HK0.out]; simp)
              go_upto_region 10 with fail
              go_still_tail 11, (by kernel_rfl)
              go_wp2_with (go_at_call 22; refine (orderR_any x.path c.path _ (by omega) (by omega)).mono ?_; rintro e3 w3 ⟨rfl, hb3⟩; rw [HZ.out]; have hb3' := (Below.refl w2.heap.size w2).drew.trans hb3; have HB3 := Lib.hid (HB2.out.trans (hb3'.mono HB2.out.size)); clear hb3 hb3')
              go_ret
              exact ⟨k, rfl, .inl ⟨k, hlt, rfl, HW.out, hpre.out⟩, HB3.out⟩
            · have HNo := Lib.hid (show (false || (match l[k - 1]? with | some x => decide (0 < k) && decide (0 ≤ orderL (partsB x.path) (partsB c.path)) | none => false) || !true) = false by
                rw [HX.out]; show (false || (decide (0 < k) && decide (0 ≤ orderL (partsB x.path) (partsB c.path))) || !true) = false
                rw [HZ.out, decide_eq_false hzz]; simp)
              go_upto_region 10 with fail
              go_still_tail 11, (by kernel_rfl)
              go_upto_region 12 with (go_at_call 22; refine (orderR_any x.path c.path _ (by omega) (by omega)).mono ?_; rintro e3 w3 ⟨rfl, hb3⟩; rw [HZ.out]; have hb3' := (Below.refl w2.heap.size w2).drew.trans hb3; have HBA := Lib.hid (HB2.out.trans (hb3'.mono HB2.out.size)); clear g0 g1 g2 g3; obtain ⟨g0, g1, g2, g3⟩ := FX.out _ HBA.out; clear hb3 hb3')

              -- the directory above it
              go_upto_region 13 with (go_at_call 23; refine (upR_any c.path _ (by omega) HU0.out).mono ?_; rintro e3 w3 ⟨rfl, hb3⟩; have HB3 := Lib.hid (HBA.out.trans (hb3.mono HBA.out.size)); clear hb3)
              have HKd := Lib.hid (kindR_any (l.take k) (upB c.path).1 (some ⟨b, o, none⟩) cap w3 ((hr.out.below HB3.out).ents_take k) (by rw [hT]; omega) (fun e he => (hs.out e (List.take_subset _ _ he)).1) (by omega))
              rw [hT] at HKd
              obtain ⟨z, hz⟩ : ∃ z, kindL (l.take k) (upB c.path).1 = z := ⟨_, rfl⟩
              rw [hz] at HKd
              have HZk := Lib.hid hz
              clear hz
              go_wp2_with fail
              refine (HKd.out).mono ?_
              rintro e4 w4 ⟨rfl, rfl⟩
              have hz2 : (z != 1) = true ∨ (z != 1) = false := by cases (z != 1) <;> simp
              rcases hz2 with h | h
              · have HW := Lib.hid (show wrongR l k = true by rw [wrongR_eq HK.out, HZk.out]; rw [decide_eq_false (bne_iff_ne.1 h)]; simp)
                clear HKd
                go_wp2
                go_ret
                exact ⟨k, rfl, .inl ⟨k, hlt, rfl, HW.out, hpre.out⟩, HB3.out⟩
              · have hz1 : z = 1 := by simpa using h
                have HW := Lib.hid (show wrongR l k = false by rw [wrongR_eq HK.out, HZk.out, HT0.out, decide_eq_true hz1]; exact HNo.out)
                clear hz1
                have HPr := Lib.hid (show ∀ j, j < k + 1 → wrongR l j = false by
                  intro j hj
                  rcases Nat.lt_or_ge j k with h' | h'
                  · exact hpre.out j h'
                  · obtain rfl : j = k := by omega
                    exact HW.out)
                clear HKd
                go_wp2
                go_roundw
                case rel => exact ⟨k + 1, by omega, by go_num, HPr, HB3.out⟩
                case measure => simp [intOf]; omega
    · obtain rfl : k = l.length := by omega
      go_wp2
      go_ret
      exact ⟨-1, rfl, .inr ⟨rfl, hpre.out⟩, hbel⟩
end Go.Proofs.YtafokdidpbainaaGreatDoor
