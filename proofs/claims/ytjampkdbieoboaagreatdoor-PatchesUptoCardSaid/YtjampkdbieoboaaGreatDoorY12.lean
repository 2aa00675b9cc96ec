/-
  The document's answer: the number of the first entry that is wrong.
  The document's answer: a tree without what stands at a path; an entry put in its place.
  The document's answer: an entry put in its place.
  The program's own tree.Valid: the first change that may not stand where it stands: the walk.
-/
import Derived.Deep.DeepCutAuto
import Derived.StillTailTactics
import Derived.Deep.RegionWith
import Derived.BigRegion
import Derived.Test.YtjampkdbieoboaaGreatDoorY02
import Derived.Test.YtjampkdbieoboaaGreatDoorY03
import Derived.Test.YtjampkdbieoboaaGreatDoorY05
import Derived.Test.YtjampkdbieoboaaGreatDoorY08
import Derived.Test.YtjampkdbieoboaaGreatDoorY11
set_option linter.unusedVariables false
set_option linter.unusedSimpArgs false
namespace Go.Proofs.YtjampkdbieoboaaGreatDoor
open Go.RowKit

theorem ents_append (a b : List Ent) : ents (a ++ b) = ents a ++ ents b := by
  induction a with
  | nil => rfl
  | cons e r ih => simp only [List.cons_append, ents, ih, List.append_assoc]
theorem Rd.ents_take {w : World} {A : Option Addr} {l : List Ent} (h : Rd w A (ents l)) (m : Nat) : Rd w A (ents (l.take m)) := by
  have e : ents l = ents (l.take m) ++ ents (l.drop m) := by rw [← ents_append, List.take_append_drop]
  rw [e] at h; exact h.pre
/-- is an entry at a path? -/
def atL (l : List Ent) (p : List UInt8) (i : Nat) : Bool := match l[i]? with | some e => decide (e.path = p) | none => false
theorem kindL_at {l : List Ent} {p : List UInt8} (hp : p ≠ []) {i : Nat} (hi : i < l.length) (h : atL l p i = true) (hb : ∀ j, j < i → atL l p j = false) : kindL l p = (l[i]'hi).kind := by
  unfold kindL
  rw [if_neg hp]
  have : l.find? (fun e => decide (e.path = p)) = some l[i] := by
    rw [List.find?_eq_some_iff_getElem]
    refine ⟨?_, i, hi, rfl, fun j hj => ?_⟩
    · unfold atL at h; rw [List.getElem?_eq_getElem hi] at h; exact h
    · have := hb j hj
      unfold atL at this; rw [List.getElem?_eq_getElem (by omega)] at this; simpa using this
  rw [this]
theorem kindL_none {l : List Ent} {p : List UInt8} (hp : p ≠ []) (hb : ∀ j, j < l.length → atL l p j = false) : kindL l p = 0 := by
  unfold kindL
  rw [if_neg hp]
  have : l.find? (fun e => decide (e.path = p)) = none := by
    rw [List.find?_eq_none]
    intro e he
    obtain ⟨j, hj, rfl⟩ := List.getElem_of_mem he
    have := hb j hj
    unfold atL at this; rw [List.getElem?_eq_getElem hj] at this; simpa using this
  rw [this]
set_option maxHeartbeats 2000000 in
theorem at_any (l : List Ent) (p : List UInt8) (A : Option Addr) (cap : Nat) (w : World) (hr : Rd w A (ents l)) (hl : l.length ≤ 2000000000) (hs : ∀ e ∈ l, e.path.length ≤ 2000000000) (hp : p.length ≤ 2000000000) :
    Calls Tryz.prog 30 #[.slice A l.length cap, .string (S p)] w fun e w' => (∃ r, e = .returned (.int .i64 r) ∧ First (atL l p) l.length r) ∧ w = w' := by
  go_enter Tryz.func30, Tryz.ntmps30
  go_wp2
  go_loopw [5] (fun i wr => ∃ k : Nat, k ≤ l.length ∧ i = .int .i64 k ∧ Hid (∀ j, j < k → atL l p j = false) ∧ w = wr) (fun i _ => l.length - (intOf i).toNat)
  case atStart => exact ⟨0, Nat.zero_le _, rfl, fun j hj => by omega, rfl⟩
  case round =>
    obtain ⟨k, hk, rfl, hpre, rfl⟩ := hrel
    by_cases hlt : k < l.length
    · obtain ⟨b, o, rfl, hbb, g0, g1, g2, g3⟩ := ents_at hr (Below.refl _ _) k hlt
      obtain ⟨c, hcc⟩ : ∃ c, l[k] = c := ⟨_, rfl⟩
      have hsp := hs c (hcc ▸ List.getElem_mem hlt)
      rw [hcc] at g0 g1 g2 g3
      have HK := Lib.hid (show atL l p k = decide (c.path = p) by unfold atL; rw [List.getElem?_eq_getElem hlt, hcc])
      clear hcc
      have hways : (c.path == p) = true ∨ (c.path == p) = false := by cases (c.path == p) <;> simp
      rcases hways with h | h
      · have HB := Lib.hid (show atL l p k = true by rw [HK.out]; simpa using h)
        go_wp2
        go_ret
        exact ⟨⟨k, rfl, .inl ⟨k, hlt, rfl, HB.out, hpre.out⟩⟩, rfl⟩
      · have HB := Lib.hid (show ∀ j, j < k + 1 → atL l p j = false by
          intro j hj
          rcases Nat.lt_or_ge j k with h' | h'
          · exact hpre.out j h'
          · obtain rfl : j = k := by omega
            rw [HK.out]; simpa using h)
        go_wp2
        go_roundw
        case rel => exact ⟨k + 1, by omega, by go_num, HB, trivial⟩
        case measure => simp [intOf]; omega
    · obtain rfl : k = l.length := by omega
      go_wp2
      go_ret
      exact ⟨⟨-1, rfl, .inr ⟨rfl, hpre.out⟩⟩, rfl⟩
set_option maxHeartbeats 2000000 in
theorem kindR_any (l : List Ent) (p : List UInt8) (A : Option Addr) (cap : Nat) (w : World) (hr : Rd w A (ents l)) (hl : l.length ≤ 2000000000) (hs : ∀ e ∈ l, e.path.length ≤ 2000000000) (hp : p.length ≤ 2000000000) :
    Calls Tryz.prog 16 #[.slice A l.length cap, .string (S p)] w fun e w' => e = .returned (.int .i64 (kindL l p)) ∧ w = w' := by
  go_enter Tryz.func16, Tryz.ntmps16
  by_cases h0 : p = []
  · subst h0
    go_wp2
    go_ret
    exact ⟨rfl, rfl⟩
  · have fp : p.isEmpty = false := by rw [List.isEmpty_eq_false_iff]; exact h0
    have H0 := Lib.hid h0
    clear h0
    go_wp2_with fail
    refine (at_any l p A cap _ hr hl hs hp).mono ?_
    rintro e w1 ⟨⟨r, rfl, hF⟩, rfl⟩
    rcases hF with ⟨i, hi, rfl, h1, h2⟩ | ⟨rfl, h2⟩
    · obtain ⟨b, o, rfl, hbb, g0, g1, g2, g3⟩ := ents_at hr (Below.refl _ _) i hi
      have X := Lib.hid (kindL_at H0.out hi h1 h2)
      generalize (l[i]'hi).kind = q at *
      clear h1 h2
      go_wp2
      go_ret
      exact ⟨by rw [X.out]; rfl, rfl⟩
    · have X := Lib.hid (kindL_none H0.out h2)
      clear h2
      go_wp2
      go_ret
      exact ⟨by rw [X.out]; rfl, rfl⟩
set_option maxRecDepth 100000 in
set_option maxHeartbeats 8000000 in
theorem wrongR_any (l : List Ent) (A : Option Addr) (cap : Nat) (w : World) (hr : Rd w A (ents l)) (hl : l.length ≤ 2000000000) (hc1 : l.length ≤ cap) (hc2 : cap ≤ maxLen) (hs : ∀ e ∈ l, e.path.length ≤ 2000000000 ∧ e.data.length ≤ 2000000000) :
    Calls Tryz.prog 6 #[.slice A l.length cap] w fun e w' => ∃ r, e = .returned (.int .i64 r) ∧ First (wrongR l) l.length r ∧ Below w.heap.size w w' := by
  go_enter Tryz.func6, Tryz.ntmps6
  go_wp2
  replace hr := Lib.hid hr
  replace hs := Lib.hid hs
  go_loopw [3] (fun i wr => ∃ k : Nat, k ≤ l.length ∧ i = .int .i64 k ∧ Hid (∀ j, j < k → wrongR l j = false) ∧ Below w.heap.size w wr) (fun i _ => l.length - (intOf i).toNat)
  case atStart => exact ⟨0, Nat.zero_le _, rfl, fun j hj => by omega, Below.refl _ _⟩
  case round =>
    obtain ⟨k, hk, rfl, hpre, hbel⟩ := hrel
    by_cases hlt : k < l.length
    · obtain ⟨b, o, rfl, hbb, g0, g1, g2, g3⟩ := ents_at hr.out hbel k hlt
      obtain ⟨c, hcc⟩ : ∃ c, l[k] = c := ⟨_, rfl⟩
      obtain ⟨hsp, hsd⟩ := hs.out c (hcc ▸ List.getElem_mem hlt)
      have HK := Lib.hid (show l[k]? = some c by rw [List.getElem?_eq_getElem hlt, hcc])
      have FX := Lib.hid (fun (wx : World) (hb : Below w.heap.size w wx) => by
        have h := ents_at hr.out hb k hlt
        rw [hcc] at h
        obtain ⟨b', o', hAA, _, y0, y1, y2, y3⟩ := h
        obtain ⟨rfl, rfl⟩ : b' = b ∧ o' = o := by cases hAA; exact ⟨rfl, rfl⟩
        exact (⟨y0, y1, y2, y3⟩ : wx.cell? ⟨b', o' + k * 4, none⟩ = some (.string (S c.path)) ∧ wx.cell? ⟨b', o' + k * 4 + 1, none⟩ = some (.int .i64 c.kind) ∧ wx.cell? ⟨b', o' + k * 4 + 2, none⟩ = some (.int .i64 c.mode) ∧ wx.cell? ⟨b', o' + k * 4 + 3, none⟩ = some (.string (S c.data))))
      rw [hcc] at g0 g1 g2 g3
      have HB0 := Lib.hid hbel
      clear hcc hbel
      have hkl : (k : Int) < (l.length : Int) := by omega
      go_upto_region 6 with (first
        | (go_at_call 12; refine (isPath_any c.path _ (by omega)).mono ?_; rintro e1 w1 ⟨rfl, hb1⟩; have HB1 := Lib.hid (HB0.out.trans (hb1.mono HB0.out.size)); clear g0 g1 g2 g3; obtain ⟨g0, g1, g2, g3⟩ := FX.out _ HB1.out; clear hb1 HB0)
        | (go_at_call 13; refine (goodR_any c _ (by omega)).mono ?_; rintro e2 w2 ⟨rfl, hb2⟩; have HB2 := Lib.hid (HB1.out.trans (hb2.mono HB1.out.size)); clear g0 g1 g2 g3; obtain ⟨g0, g1, g2, g3⟩ := FX.out _ HB2.out; clear hb2 HB1))
      obtain ⟨P, hP⟩ : ∃ P, pathB c.path = P := ⟨_, rfl⟩
      obtain ⟨G, hG⟩ : ∃ G, goodB c = G := ⟨_, rfl⟩
      rw [hP, hG]
      obtain ⟨T, hT0⟩ : ∃ T, (decide (k = 40) || !pathB c.path || !goodB c || c.path.isEmpty) = T := ⟨_, rfl⟩
      have HT0 := Lib.hid hT0
      have HT2 := Lib.hid (show T = (decide (k = 40) || !P || !G || c.path.isEmpty) by rw [← hT0, hP, hG])
      have HP := Lib.hid hP
      clear hP hG hT0
      go_cut [44] (fun v wx => v = .bool T ∧ w2 = wx)
      case first =>
        by_cases i40 : k = 40
        · have f40 : ((k : Int) == 40) = true := by rw [beq_iff_eq]; omega
          obtain rfl : T = true := by rw [HT2.out, decide_eq_true i40]; rfl
          clear i40 HT2
          go_wp2
          go_meet
          exact ⟨rfl, rfl⟩
        have f40 : ((k : Int) == 40) = false := by rw [beq_eq_false_iff_ne]; omega
        cases P
        · obtain rfl : T = true := by rw [HT2.out, decide_eq_false i40]; rfl
          clear i40 HT2
          go_wp2
          go_meet
          exact ⟨rfl, rfl⟩
        cases G
        · obtain rfl : T = true := by rw [HT2.out, decide_eq_false i40]; rfl
          clear i40 HT2
          go_wp2
          go_meet
          exact ⟨rfl, rfl⟩
        have X : c.path.isEmpty = T := by rw [HT2.out, decide_eq_false i40]; simp
        clear i40 HT2
        go_wp2
        go_meet
        exact ⟨rfl, rfl⟩
      case rest =>
        obtain ⟨rfl, rfl⟩ := hcut
        cases hTv : T
        case true =>
          have HW := Lib.hid (show wrongR l k = true by rw [wrongR_eq HK.out, HT0.out, hTv]; simp)
          subst hTv
          clear HT0 HT2
          go_wp2
          go_ret
          exact ⟨k, rfl, .inl ⟨k, hlt, rfl, HW.out, hpre.out⟩, HB2.out⟩
        case false =>
          subst hTv
          have hPt : pathB c.path = true ∧ c.path ≠ [] := by
            have h := HT0.out
            simp only [Bool.or_eq_false_iff, Bool.not_eq_false'] at h
            refine ⟨h.1.1.2, fun e => ?_⟩
            rw [e] at h; exact absurd h.2 (by decide)
          have hp170 : c.path.length ≤ 170 := by
            have h := hPt.1
            simp only [pathB, Bool.and_eq_true, decide_eq_true_eq] at h
            exact h.1.1
          have HU0 := Lib.hid (show 0 < (partsB c.path).length from List.length_pos_iff.2 (partsB_ne hPt.2))
          have hu1 := (upB_len c.path).1
          have hT : (l.take k).length = k := by rw [List.length_take]; omega
          have hkc : (k : Int) ≤ (cap : Int) := by omega
          clear hPt HT2
          by_cases k0 : k = 0
          · have HNo := Lib.hid (show (false || (match l[k - 1]? with | some x => decide (0 < k) && decide (0 ≤ orderL (partsB x.path) (partsB c.path)) | none => false) || !true) = false by
              rw [k0]; cases l[0 - 1]? <;> rfl)
            have hk1 : ¬ ((0 : Int) < (k : Int)) := by omega
            have HBA := HB2
            clear k0

            -- the directory above it
            go_upto_region 13 with (go_at_call 15; refine (upR_any c.path _ (by omega) HU0.out).mono ?_; rintro e3 w3 ⟨rfl, hb3⟩; have HB3 := Lib.hid (HBA.out.trans (hb3.mono HBA.out.size)); clear hb3)
            have HKd := Lib.hid (kindR_any (l.take k) (upB c.path).1 (some ⟨b, o, none⟩) cap w3 ((hr.out.below HB3.out).ents_take k) (by rw [hT]; omega) (fun e he => (hs.out e (List.take_subset _ _ he)).1) (by omega))
            rw [hT] at HKd
            obtain ⟨z, hz⟩ : ∃ z, kindL (l.take k) (upB c.path).1 = z := ⟨_, rfl⟩
            rw [hz] at HKd
            have HZk := Lib.hid hz
            clear hz
            go_wp2_with fail
            refine (HKd.out).mono ?_
            rintro e4 w4 ⟨rfl, rfl⟩
            have hz2 : (z != 1) = true ∨ (z != 1) = false := by cases (z != 1) <;> simp
            rcases hz2 with h | h
            · have HW := Lib.hid (show wrongR l k = true by rw [wrongR_eq HK.out, HZk.out]; rw [decide_eq_false (bne_iff_ne.1 h)]; simp)
              clear HKd
              go_wp2
              go_ret
              exact ⟨k, rfl, .inl ⟨k, hlt, rfl, HW.out, hpre.out⟩, HB3.out⟩
            · have hz1 : z = 1 := by simpa using h
              have HW := Lib.hid (show wrongR l k = false by rw [wrongR_eq HK.out, HZk.out, HT0.out, decide_eq_true hz1]; exact HNo.out)
              clear hz1
              have HPr := Lib.hid (show ∀ j, j < k + 1 → wrongR l j = false by
                intro j hj
                rcases Nat.lt_or_ge j k with h' | h'
                · exact hpre.out j h'
                · obtain rfl : j = k := by omega
                  exact HW.out)
              clear HKd
              go_wp2
              go_roundw
              case rel => exact ⟨k + 1, by omega, by go_num, HPr, HB3.out⟩
              case measure => simp [intOf]; omega
          · obtain ⟨m, hkm⟩ : ∃ m, k = m + 1 := ⟨k - 1, by omega⟩
            have hml : m < l.length := by omega
            obtain ⟨x, hx⟩ : ∃ x, l[m] = x := ⟨_, rfl⟩
            have hxp := (hs.out x (hx ▸ List.getElem_mem hml)).1
            have HX := Lib.hid (show l[k - 1]? = some x by rw [show k - 1 = m by omega, List.getElem?_eq_getElem hml, hx])
            have y0 : w2.cell? ⟨b, o + m * 4, none⟩ = some (.string (S x.path)) := by
              obtain ⟨b', o', hAA, _, y0, _⟩ := ents_at hr.out HB2.out m hml
              obtain ⟨rfl, rfl⟩ : b' = b ∧ o' = o := by cases hAA; exact ⟨rfl, rfl⟩
              rw [hx] at y0; exact y0
            have hk1 : (0 : Int) < (k : Int) := by omega
            have hm2 : (m : Int) < (l.length : Int) := by omega
            have hm3 : (0 : Int) ≤ (m : Int) := by omega
            have hwr : IntKind.i64.wrap ((k : Int) - 1) = (m : Int) := by rw [IntKind.wrap_i64]; omega
            obtain ⟨z, hz⟩ : ∃ z, orderL (partsB x.path) (partsB c.path) = z := ⟨_, rfl⟩
            have HZ := Lib.hid hz
            have HK0 := Lib.hid (show 0 < k by omega)
            clear hkm hx hz k0
            have hz2 : 0 ≤ z ∨ ¬ (0 ≤ z) := Classical.em _
            rcases hz2 with hzz | hzz
            · have HW := Lib.hid (show wrongR l k = true by rw [wrongR_eq HK.out, HX.out]; show (_ || (decide (0 < k) && decide (0 ≤ orderL (partsB x.path) (partsB c.path))) || _) = true; rw [HZ.out, decide_eq_true hzz, decide_eq_true HK0.out]; simp)
              go_upto_region 10 with fail
              go_still_tail 11, (by kernel_rfl)
              go_wp2_with (go_at_call 14; refine (orderR_any x.path c.path _ (by omega) (by omega)).mono ?_; rintro e3 w3 ⟨rfl, hb3⟩; rw [HZ.out]; have hb3' := (Below.refl w2.heap.size w2).drew.trans hb3; have HB3 := Lib.hid (HB2.out.trans (hb3'.mono HB2.out.size)); clear hb3 hb3')
              go_ret
              exact ⟨k, rfl, .inl ⟨k, hlt, rfl, HW.out, hpre.out⟩, HB3.out⟩
            · have HNo := Lib.hid (show (false || (match l[k - 1]? with | some x => decide (0 < k) && decide (0 ≤ orderL (partsB x.path) (partsB c.path)) | none => false) || !true) = false by
                rw [HX.out]; show (false || (decide (0 < k) && decide (0 ≤ orderL (partsB x.path) (partsB c.path))) || !true) = false
                rw [HZ.out, decide_eq_false hzz]; simp)
              go_upto_region 10 with fail
              go_still_tail 11, (by kernel_rfl)
              go_upto_region 12 with (go_at_call 14; refine (orderR_any x.path c.path _ (by omega) (by omega)).mono ?_; rintro e3 w3 ⟨rfl, hb3⟩; rw [HZ.out]; have hb3' := (Below.refl w2.heap.size w2).drew.trans hb3; have HBA := Lib.hid (HB2.out.trans (hb3'.mono HB2.out.size)); clear g0 g1 g2 g3; obtain ⟨g0, g1, g2, g3⟩ := FX.out _ HBA.out; clear hb3 hb3')

              -- the directory above it
              go_upto_region 13 with (go_at_call 15; refine (upR_any c.path _ (by omega) HU0.out).mono ?_; rintro e3 w3 ⟨rfl, hb3⟩; have HB3 := Lib.hid (HBA.out.trans (hb3.mono HBA.out.size)); clear hb3)
              have HKd := Lib.hid (kindR_any (l.take k) (upB c.path).1 (some ⟨b, o, none⟩) cap w3 ((hr.out.below HB3.out).ents_take k) (by rw [hT]; omega) (fun e he => (hs.out e (List.take_subset _ _ he)).1) (by omega))
              rw [hT] at HKd
              obtain ⟨z, hz⟩ : ∃ z, kindL (l.take k) (upB c.path).1 = z := ⟨_, rfl⟩
              rw [hz] at HKd
              have HZk := Lib.hid hz
              clear hz
              go_wp2_with fail
              refine (HKd.out).mono ?_
              rintro e4 w4 ⟨rfl, rfl⟩
              have hz2 : (z != 1) = true ∨ (z != 1) = false := by cases (z != 1) <;> simp
              rcases hz2 with h | h
              · have HW := Lib.hid (show wrongR l k = true by rw [wrongR_eq HK.out, HZk.out]; rw [decide_eq_false (bne_iff_ne.1 h)]; simp)
                clear HKd
                go_wp2
                go_ret
                exact ⟨k, rfl, .inl ⟨k, hlt, rfl, HW.out, hpre.out⟩, HB3.out⟩
              · have hz1 : z = 1 := by simpa using h
                have HW := Lib.hid (show wrongR l k = false by rw [wrongR_eq HK.out, HZk.out, HT0.out, decide_eq_true hz1]; exact HNo.out)
                clear hz1
                have HPr := Lib.hid (show ∀ j, j < k + 1 → wrongR l j = false by
                  intro j hj
                  rcases Nat.lt_or_ge j k with h' | h'
                  · exact hpre.out j h'
                  · obtain rfl : j = k := by omega
                    exact HW.out)
                clear HKd
                go_wp2
                go_roundw
                case rel => exact ⟨k + 1, by omega, by go_num, HPr, HB3.out⟩
                case measure => simp [intOf]; omega
    · obtain rfl : k = l.length := by omega
      go_wp2
      go_ret
      exact ⟨-1, rfl, .inr ⟨rfl, hpre.out⟩, hbel⟩
end Go.Proofs.YtjampkdbieoboaaGreatDoor
namespace Go.Proofs.YtjampkdbieoboaaGreatDoor
open Go.RowKit

def entZ : Value := .agg #[.string ByteArray.empty, .int .i64 0, .int .i64 0, .string ByteArray.empty]
theorem cells4_at (w : World) (a b c d : Value) (t : TypeId) (B : Nat) (hB : w.heap.size = B) : ∀ j u, [a, b, c, d][j]? = some u → (w.alloc (.cells #[a, b, c, d] t)).cell? ((⟨B, 0, none⟩ : Addr).add j) = some u := by
  subst hB
  intro j u h
  match j, h with
  | 0, h => simp at h; subst h; simp [Addr.add]
  | 1, h => simp at h; subst h; simp [Addr.add]
  | 2, h => simp at h; subst h; simp [Addr.add]
  | 3, h => simp at h; subst h; simp [Addr.add]
/-- a row of entries of one's own -/
abbrev OwnE (w : World) (B : Nat) (v : Value) (l : List Ent) : Prop := w.ownsRow B 40 4 v l.length (ents l)
theorem own_snoc {w : World} {B : Nat} {v : Value} {l : List Ent} {p : List UInt8} {k m : Int} {d : List UInt8} (h : w.ownsRow B 40 4 v (l.length + 1) (ents l ++ [.string (S p), .int .i64 k, .int .i64 m, .string (S d)])) : OwnE w B v (l ++ [⟨p, k, m, d⟩]) := by
  unfold OwnE
  rw [ents_app, List.length_append, List.length_singleton]
  exact h
def keepW (p : List UInt8) (self : Bool) (x : Ent) : Bool := !(belowB x.path p || (self && decide (x.path = p)))
def withoutL (l : List Ent) (p : List UInt8) (self : Bool) : List Ent := l.filter (keepW p self)
theorem withoutL_take {l : List Ent} {p : List UInt8} {self : Bool} {k : Nat} {c : Ent} (h : l[k]? = some c) : withoutL (l.take (k + 1)) p self = withoutL (l.take k) p self ++ (if keepW p self c then [c] else []) := by
  obtain ⟨hk, rfl⟩ := List.getElem?_eq_some_iff.1 h
  rw [List.take_succ_eq_append_getElem hk, withoutL, List.filter_append, withoutL]
  congr 1
  simp only [List.filter_cons, List.filter_nil]
set_option maxHeartbeats 4000000 in
theorem without_any (l : List Ent) (p : List UInt8) (self : Bool) (A : Option Addr) (cap : Nat) (w : World) (hr : Rd w A (ents l)) (hl : l.length ≤ 2000000000) (hs : ∀ e ∈ l, e.path.length ≤ 2000000000) (hp : p.length ≤ 2000000000) :
    Calls Tryz.prog 18 #[.slice A l.length cap, .string (S p), .bool self] w fun e w' => ∃ v, e = .returned v ∧ OwnE w' w.heap.size v (withoutL l p self) ∧ Below w.heap.size w w' := by
  obtain ⟨i0, hi0, hz0, hz1, hz2⟩ := info_parts (show (Tryz.prog.info? 40).map (fun i => (i.zero, i.size, i.bytes)) = some (some entZ, 4, 48) by kernel_rfl)
  go_enter Tryz.func18, Tryz.ntmps18
  go_wp2
  replace hr := Lib.hid hr
  replace hs := Lib.hid hs
  go_loopw [8, 7] (fun i vo wr => ∃ k : Nat, k ≤ l.length ∧ i = .int .i64 k ∧ Hid (OwnE wr w.heap.size vo (withoutL (l.take k) p self)) ∧ Hid (Below w.heap.size w wr)) (fun i _ _ => l.length - (intOf i).toNat)
  case atStart => exact ⟨0, Nat.zero_le _, rfl, Lib.hid (World.ownsRow_nil _ _ _ _), Lib.hid (Below.refl _ _)⟩
  case round =>
    obtain ⟨k, hk, rfl, HO, HB⟩ := hrel
    obtain ⟨av, cv, rfl⟩ := ownsRow_form HO.out
    by_cases hlt : k < l.length
    · obtain ⟨b, o, rfl, hbb, g0, g1, g2, g3⟩ := ents_at hr.out HB.out k hlt
      obtain ⟨c, hcc⟩ : ∃ c, l[k] = c := ⟨_, rfl⟩
      have hsp := hs.out c (hcc ▸ List.getElem_mem hlt)
      have HK := Lib.hid (show l[k]? = some c by rw [List.getElem?_eq_getElem hlt, hcc])
      rw [hcc] at g0 g1 g2 g3
      clear hcc
      have hob : (withoutL (l.take k) p self).length ≤ 2000000000 := by
        have := List.length_filter_le (keepW p self) (l.take k)
        rw [List.length_take] at this; unfold withoutL; omega
      have HW := Lib.hid (withoutL_take (p := p) (self := self) HK.out)
      have HKp := Lib.hid (show keepW p self c = !(belowB c.path p || (self && decide (c.path = p))) from rfl)
      generalize withoutL (l.take k) p self = out at *
      have HBl := Lib.hid (fun w => below_q c.path p w (by omega))
      have hway : (belowB c.path p = true) ∨ (belowB c.path p = false ∧ self = false) ∨ (belowB c.path p = false ∧ self = true ∧ (c.path == p) = true) ∨ (belowB c.path p = false ∧ self = true ∧ (c.path == p) = false) := by
        cases belowB c.path p <;> cases self <;> cases (c.path == p) <;> simp
      rcases hway with h | ⟨h, h2⟩ | ⟨h, h2, h3⟩ | ⟨h, h2, h3⟩
      · rw [h] at HBl
        have HE := Lib.hid (show withoutL (l.take (k + 1)) p self = out by rw [HW.out, HKp.out, h]; simp)
        clear h HW HKp
        go_wp2_with (go_at_call 17; refine (HBl.out _).mono ?_; rintro e1 w1 ⟨rfl, rfl⟩)
        go_roundw
        case rel => exact ⟨k + 1, by omega, by go_num, by rw [HE.out]; exact HO, HB⟩
        case measure => simp [intOf]; omega
      · rw [h] at HBl
        have HE := Lib.hid (show withoutL (l.take (k + 1)) p self = out ++ [⟨c.path, c.kind, c.mode, c.data⟩] by rw [HW.out, HKp.out, h, h2]; simp)
        subst h2; clear h HW HKp
        go_wp2_with (first
          | (go_at_call 17; refine (HBl.out _).mono ?_; rintro e1 w1 ⟨rfl, rfl⟩)
          | (at_builtin; refine wpList_append_own _ rfl _ _ 22 rfl w.heap.size 40 i0 entZ 4 48 Tryz.underlying22 hi0 hz0 hz1 hz2 rfl (by decide) _ _ _ rfl (HO.out.alloc _) ⟨_, 0, none⟩ 1 1 [.string (S c.path), .int .i64 c.kind, .int .i64 c.mode, .string (S c.data)] rfl rfl (cells4_at _ _ _ _ _ _ _ (by simp)) (by simp [Value.oneCell']) (by unfold maxLen; omega) (by omega) (by simp; have := HB.out.size; omega) ?_; intro v' w5 hown5 hgr5 _; have HB5 := Lib.hid ((HB.out.alloc HB.out.size _).grown hgr5 (by have := HB.out.size; simp; omega) (fun q hq => ((HO.out.alloc (.cells #[.string (S c.path), .int .i64 c.kind, .int .i64 c.mode, .string (S c.data)] 40)).lt q hq).1)); have HO5 := Lib.hid (own_snoc hown5); obtain ⟨ao', c', rfl⟩ := ownsRow_form hown5; clear hown5 hgr5))
        go_roundw
        case rel => exact ⟨k + 1, by omega, by go_num, by rw [HE.out]; exact HO5, HB5⟩
        case measure => simp [intOf]; omega
      · rw [h] at HBl
        have HE := Lib.hid (show withoutL (l.take (k + 1)) p self = out by rw [HW.out, HKp.out, h, h2, decide_eq_true (by simpa using h3)]; simp)
        subst h2; clear h HW HKp
        go_wp2_with (go_at_call 17; refine (HBl.out _).mono ?_; rintro e1 w1 ⟨rfl, rfl⟩)
        go_roundw
        case rel => exact ⟨k + 1, by omega, by go_num, by rw [HE.out]; exact HO, HB⟩
        case measure => simp [intOf]; omega
      · rw [h] at HBl
        have HE := Lib.hid (show withoutL (l.take (k + 1)) p self = out ++ [⟨c.path, c.kind, c.mode, c.data⟩] by rw [HW.out, HKp.out, h, h2, decide_eq_false (by simpa using h3)]; simp)
        subst h2; clear h HW HKp
        go_wp2_with (first
          | (go_at_call 17; refine (HBl.out _).mono ?_; rintro e1 w1 ⟨rfl, rfl⟩)
          | (at_builtin; refine wpList_append_own _ rfl _ _ 22 rfl w.heap.size 40 i0 entZ 4 48 Tryz.underlying22 hi0 hz0 hz1 hz2 rfl (by decide) _ _ _ rfl (HO.out.alloc _) ⟨_, 0, none⟩ 1 1 [.string (S c.path), .int .i64 c.kind, .int .i64 c.mode, .string (S c.data)] rfl rfl (cells4_at _ _ _ _ _ _ _ (by simp)) (by simp [Value.oneCell']) (by unfold maxLen; omega) (by omega) (by simp; have := HB.out.size; omega) ?_; intro v' w5 hown5 hgr5 _; have HB5 := Lib.hid ((HB.out.alloc HB.out.size _).grown hgr5 (by have := HB.out.size; simp; omega) (fun q hq => ((HO.out.alloc (.cells #[.string (S c.path), .int .i64 c.kind, .int .i64 c.mode, .string (S c.data)] 40)).lt q hq).1)); have HO5 := Lib.hid (own_snoc hown5); obtain ⟨ao', c', rfl⟩ := ownsRow_form hown5; clear hown5 hgr5))
        go_roundw
        case rel => exact ⟨k + 1, by omega, by go_num, by rw [HE.out]; exact HO5, HB5⟩
        case measure => simp [intOf]; omega
    · obtain rfl : k = l.length := by omega
      rw [List.take_length] at HO ⊢
      go_wp2
      go_ret
      exact ⟨_, rfl, HO.out, HB.out⟩
end Go.Proofs.YtjampkdbieoboaaGreatDoor
namespace Go.Proofs.YtjampkdbieoboaaGreatDoor
open Go.RowKit

theorem Cell4.low {W W' : World} {g n : Nat} {c : Ent} (h : Cell4 W g c) (hb : Below n W W') (hg : g < n) : Cell4 W' g c := by
  obtain ⟨h0, h1, h2, h3⟩ := h
  exact ⟨(hb.cell (p := ⟨g, 0, none⟩) hg).trans h0, (hb.cell (p := ⟨g, 1, none⟩) hg).trans h1, (hb.cell (p := ⟨g, 2, none⟩) hg).trans h2, (hb.cell (p := ⟨g, 3, none⟩) hg).trans h3⟩
/-- one entry of a tree, while another is put -/
def putStep (e : Ent) (both : Bool) (s : List Ent × Bool) (x : Ent) : List Ent × Bool :=
  let s1 := if orderL (partsB e.path) (partsB x.path) < 0 ∧ s.2 = false then (s.1 ++ [e], true) else s
  if orderL (partsB e.path) (partsB x.path) = 0 ∨ (belowB x.path e.path = true ∧ both = false) then s1 else (s1.1 ++ [x], s1.2)
def putGo (e : Ent) (both : Bool) (l : List Ent) : List Ent × Bool := l.foldl (putStep e both) ([], false)
def putEnd (e : Ent) (s : List Ent × Bool) : List Ent := if s.2 then s.1 else s.1 ++ [e]
def bothB (l : List Ent) (e : Ent) : Bool := decide (kindL l e.path = 1) && decide (e.kind = 1)
def putL (l : List Ent) (e : Ent) : List Ent := putEnd e (putGo e (bothB l e) l)
theorem putGo_take {l : List Ent} {e c : Ent} {both : Bool} {k : Nat} (h : l[k]? = some c) : putGo e both (l.take (k + 1)) = putStep e both (putGo e both (l.take k)) c := by
  obtain ⟨hk, rfl⟩ := List.getElem?_eq_some_iff.1 h
  rw [List.take_succ_eq_append_getElem hk, putGo, List.foldl_append]; rfl
theorem putStep_len (e : Ent) (both : Bool) (s : List Ent × Bool) (x : Ent) : (putStep e both s x).1.length ≤ s.1.length + 2 := by
  unfold putStep
  by_cases h1 : orderL (partsB e.path) (partsB x.path) < 0 ∧ s.2 = false
  · simp only [if_pos h1]; split <;> simp
  · simp only [if_neg h1]; split <;> simp
theorem putGo_len (e : Ent) (both : Bool) (l : List Ent) : (putGo e both l).1.length ≤ 2 * l.length := by
  have : ∀ (l : List Ent) (s : List Ent × Bool), (l.foldl (putStep e both) s).1.length ≤ s.1.length + 2 * l.length := by
    intro l
    induction l with
    | nil => intro s; simp
    | cons x r ih => intro s; rw [List.foldl_cons]; have := ih (putStep e both s x); have := putStep_len e both s x; simp only [List.length_cons]; omega
  have := this l ([], false)
  unfold putGo
  simpa using this
theorem putStep_eq (e x : Ent) (both d : Bool) (out : List Ent) (r : List Ent × Bool)
    (h : r = (let s1 := if orderL (partsB e.path) (partsB x.path) < 0 ∧ d = false then (out ++ [e], true) else (out, d)
      if orderL (partsB e.path) (partsB x.path) = 0 ∨ (belowB x.path e.path = true ∧ both = false) then s1 else (s1.1 ++ [x], s1.2))) : putStep e both (out, d) x = r := h.symm
set_option maxRecDepth 100000 in
set_option maxHeartbeats 16000000 in
theorem putR_any (l : List Ent) (e : Ent) (A : Option Addr) (cap : Nat) (w : World) (hr : Rd w A (ents l)) (hl : l.length ≤ 500000000) (hs : ∀ e ∈ l, e.path.length ≤ 2000000000) (hp : e.path.length ≤ 2000000000) :
    Calls Tryz.prog 19 #[.slice A l.length cap, e.agg] w fun r w' => ∃ v, r = .returned v ∧ OwnE w' w.heap.size v (putL l e) ∧ Below w.heap.size w w' := by
  obtain ⟨i0, hi0, hz0, hz1, hz2⟩ := info_parts (show (Tryz.prog.info? 40).map (fun i => (i.zero, i.size, i.bytes)) = some (some entZ, 4, 48) by kernel_rfl)
  unfold Ent.agg
  go_enter Tryz.func19, Tryz.ntmps19
  have Q0 := Lib.hid (Cell4.new w e 40)
  have HB0 := Lib.hid ((Below.refl w.heap.size w).alloc (Nat.le_refl _) (.cells #[.string (S e.path), .int .i64 e.kind, .int .i64 e.mode, .string (S e.data)] 40))
  have HZ0 := Lib.hid (show w.heap.size + 1 ≤ (w.alloc (.cells #[.string (S e.path), .int .i64 e.kind, .int .i64 e.mode, .string (S e.data)] 40)).heap.size by simp)
  obtain ⟨q0, q1, q2, q3⟩ := Q0.out
  have HKc := Lib.hid (kindR_any l e.path A cap _ (hr.below HB0.out) (by omega) hs hp)
  replace hr := Lib.hid hr
  replace hs := Lib.hid hs
  obtain ⟨w1, hw1⟩ : ∃ w1, w.alloc (.cells #[.string (S e.path), .int .i64 e.kind, .int .i64 e.mode, .string (S e.data)] 40) = w1 := ⟨_, rfl⟩
  rw [hw1] at Q0 HB0 HZ0 q0 q1 q2 q3 HKc
  obtain ⟨bo, hbo⟩ : ∃ bo, bothB l e = bo := ⟨_, rfl⟩
  have HBo := Lib.hid hbo
  have HPut := Lib.hid (show putL l e = putEnd e (putGo e bo l) by rw [← hbo]; rfl)
  clear hbo
  go_upto_region 1 with fail

  clear hw1
  go_cut [5] (fun v wx => v = .bool bo ∧ w1 = wx)
  case first =>
    obtain ⟨z, hz⟩ : ∃ z, kindL l e.path = z := ⟨_, rfl⟩
    rw [hz] at HKc
    have HZk := Lib.hid hz
    clear hz
    by_cases z1 : z = 1
    · have fz : (z == 1) = true := by rw [beq_iff_eq]; exact z1
      have X : (e.kind == 1) = bo := by
        rw [← HBo.out, bothB, HZk.out, decide_eq_true z1, Bool.true_and]
        by_cases k1 : e.kind = 1
        · rw [decide_eq_true k1, beq_iff_eq.2 k1]
        · rw [decide_eq_false k1, beq_eq_false_iff_ne.2 k1]
      clear z1
      go_wp2_with (go_at_call 16; refine (HKc.out).mono ?_; rintro e4 w4 ⟨rfl, rfl⟩)
      go_meet
      exact ⟨rfl, rfl⟩
    · have fz : (z == 1) = false := by rw [beq_eq_false_iff_ne]; exact z1
      obtain rfl : false = bo := by rw [← HBo.out, bothB, HZk.out, decide_eq_false z1, Bool.false_and]
      clear z1
      go_wp2_with (go_at_call 16; refine (HKc.out).mono ?_; rintro e4 w4 ⟨rfl, rfl⟩)
      go_meet
      exact ⟨rfl, rfl⟩
  case rest =>
    obtain ⟨rfl, rfl⟩ := hcut
    clear HKc HBo
    go_wp2
    go_loopw [8, 7, 6] (fun i vd vo wr => ∃ (k : Nat) (d : Bool) (out : List Ent), k ≤ l.length ∧ i = .int .i64 k ∧ vd = .bool d ∧ Hid (putGo e bo (l.take k) = (out, d)) ∧ Hid (OwnE wr (w.heap.size + 1) vo out) ∧ Hid (Below w.heap.size w wr) ∧ Hid (w.heap.size + 1 ≤ wr.heap.size) ∧ Hid (Cell4 wr w.heap.size e)) (fun i _ _ _ => l.length - (intOf i).toNat)
    case atStart => exact ⟨0, false, [], Nat.zero_le _, rfl, rfl, Lib.hid rfl, Lib.hid (World.ownsRow_nil _ _ _ _), HB0, HZ0, Q0⟩
    case round =>
      clear q0 q1 q2 q3 HB0 HZ0 Q0
      obtain ⟨k, d, out, hk, rfl, rfl, HG, HO, HB, HZ, Q⟩ := hrel
      obtain ⟨av, cv, rfl⟩ := ownsRow_form HO.out
      obtain ⟨q0, q1, q2, q3⟩ := Q.out
      have hob : out.length ≤ 1000000000 := by
        have := putGo_len e bo (l.take k)
        rw [HG.out, List.length_take] at this
        have : out.length ≤ 2 * min k l.length := this
        omega
      by_cases hlt : k < l.length
      · obtain ⟨b, o, rfl, hbb, g0, g1, g2, g3⟩ := ents_at hr.out HB.out k hlt
        obtain ⟨c, hcc⟩ : ∃ c, l[k] = c := ⟨_, rfl⟩
        have hsp := hs.out c (hcc ▸ List.getElem_mem hlt)
        have HK := Lib.hid (show l[k]? = some c by rw [List.getElem?_eq_getElem hlt, hcc])
        have FX := Lib.hid (fun (wx : World) (hb : Below w.heap.size w wx) => by
          have h := ents_at hr.out hb k hlt
          rw [hcc] at h
          obtain ⟨b', o', hAA, _, y0, y1, y2, y3⟩ := h
          obtain ⟨rfl, rfl⟩ : b' = b ∧ o' = o := by cases hAA; exact ⟨rfl, rfl⟩
          exact (⟨y0, y1, y2, y3⟩ : wx.cell? ⟨b', o' + k * 4, none⟩ = some (.string (S c.path)) ∧ wx.cell? ⟨b', o' + k * 4 + 1, none⟩ = some (.int .i64 c.kind) ∧ wx.cell? ⟨b', o' + k * 4 + 2, none⟩ = some (.int .i64 c.mode) ∧ wx.cell? ⟨b', o' + k * 4 + 3, none⟩ = some (.string (S c.data))))
        rw [hcc] at g0 g1 g2 g3
        have hkl : (k : Int) < (l.length : Int) := by omega
        clear hcc
        have HS := Lib.hid (show putGo e bo (l.take (k + 1)) = putStep e bo (out, d) c by rw [putGo_take HK.out, HG.out])
        have HBl := Lib.hid (fun w => below_q c.path e.path w (by omega))
        obtain ⟨z, hz⟩ : ∃ z, orderL (partsB e.path) (partsB c.path) = z := ⟨_, rfl⟩
        obtain ⟨u, hu⟩ : ∃ u, belowB c.path e.path = u := ⟨_, rfl⟩
        rw [hu] at HBl
        have HZo := Lib.hid hz
        have HU := Lib.hid hu
        clear hz hu HG HK
        go_upto_region 7 with fail
        go_still_tail 7, (by kernel_rfl)
        go_upto_region 8 with (go_at_call 14; refine (orderR_any e.path c.path _ (by omega) (by omega)).mono ?_; rintro e3 w3 ⟨rfl, hb3⟩; rw [HZo.out]; have hb3' := (Below.refl wr.heap.size wr).drew.trans hb3; have HB3 := Lib.hid (HB.out.trans (hb3'.mono HB.out.size)); have HZ3 := Lib.hid (show w.heap.size + 1 ≤ w3.heap.size from Nat.le_trans HZ.out hb3'.size); have HO3 := Lib.hid (ownsRow_below HO.out hb3'); have Q3 := Lib.hid (Q.out.below hb3'); clear g0 g1 g2 g3 q0 q1 q2 q3; obtain ⟨g0, g1, g2, g3⟩ := FX.out _ HB3.out; obtain ⟨q0, q1, q2, q3⟩ := Q3.out; clear hb3 hb3')
        clear HO HB HZ Q
        go_still_tail 7, (by kernel_rfl)
        go_upto_region 9 with (go_at_call 17; refine (HBl.out _).mono ?_; rintro e5 w5 ⟨rfl, rfl⟩)
        have HB4 := Lib.hid HB3.out.drew
        have HZ4 := Lib.hid (show w.heap.size + 1 ≤ w3.drew.heap.size from HZ3.out)
        have HO4 := Lib.hid (ownsRow_below HO3.out (Below.refl _ w3).drew)
        have Q4 := Lib.hid (Q3.out.below (Below.refl _ w3).drew)
        clear g0 g1 g2 g3 q0 q1 q2 q3 HB3 HZ3 HO3 Q3
        generalize World.drew w3 = w4 at *
        obtain ⟨g0, g1, g2, g3⟩ := FX.out _ HB4.out
        obtain ⟨q0, q1, q2, q3⟩ := Q4.out
        have hl2 : (out ++ [(⟨e.path, e.kind, e.mode, e.data⟩ : Ent)]).length ≤ 1000000001 := by rw [List.length_append, List.length_singleton]; omega
        have hway : (z < 0 ∧ d = false) ∨ (z < 0 ∧ d = true) ∨ z = 0 ∨ (¬ (z < 0) ∧ ¬ (z = 0)) := by
          rcases Int.lt_trichotomy z 0 with h | h | h
          · cases d
            · exact .inl ⟨h, rfl⟩
            · exact .inr (.inl ⟨h, rfl⟩)
          · exact .inr (.inr (.inl h))
          · exact .inr (.inr (.inr ⟨by omega, by omega⟩))
        have hway2 : (u = true ∧ bo = false) ∨ (u = true ∧ bo = true) ∨ u = false := by cases u <;> cases bo <;> simp
        rcases hway with ⟨h, rfl⟩ | ⟨h, rfl⟩ | rfl | ⟨h, hn⟩
        · have hn : (z == 0) = false := by rw [beq_eq_false_iff_ne]; omega
          go_upto_region 12 with (at_builtin; refine wpList_append_own _ rfl _ _ 22 rfl (w.heap.size + 1) 40 i0 entZ 4 48 Tryz.underlying22 hi0 hz0 hz1 hz2 rfl (by decide) _ _ _ rfl (HO4.out.alloc _) ⟨_, 0, none⟩ 1 1 [.string (S e.path), .int .i64 e.kind, .int .i64 e.mode, .string (S e.data)] rfl rfl (cells4_at _ _ _ _ _ _ _ (by simp)) (by simp [Value.oneCell']) (by unfold maxLen; omega) (by omega) (by simp; have := HB4.out.size; have := HZ4.out; omega) ?_; intro v' w5 w5h hgr5 _; have hb5' := (((Below.refl (w.heap.size + 1) w4).alloc (by have := HZ4.out; omega) _).grown hgr5 (by have := HZ4.out; simp; omega) (fun q hq => ((HO4.out.alloc (.cells #[.string (S e.path), .int .i64 e.kind, .int .i64 e.mode, .string (S e.data)] 40)).lt q hq).1)); have HB5 := Lib.hid (HB4.out.trans (hb5'.mono (Nat.le_succ _))); have HZ5 := Lib.hid (show w.heap.size + 1 ≤ w5.heap.size from Nat.le_trans HZ4.out hb5'.size); have Q5 := Lib.hid (Q4.out.low hb5' (Nat.lt_succ_self _)); have HO5 := Lib.hid (own_snoc w5h); obtain ⟨ao', c', rfl⟩ := ownsRow_form w5h; clear w5h hgr5 hb5' q0 q1 q2 q3 g0 g1 g2 g3; obtain ⟨q0, q1, q2, q3⟩ := Q5.out; obtain ⟨g0, g1, g2, g3⟩ := FX.out _ HB5.out)
          have hne : ¬ (z = 0) := by omega
          rcases hway2 with ⟨rfl, rfl⟩ | ⟨rfl, rfl⟩ | rfl
          · have HE := Lib.hid (show putGo e false (l.take (k + 1)) = ((out ++ [e]), true) by rw [HS.out, putStep, HZo.out, HU.out]; simp [h, hne])
            clear HS HZo HU
            go_wp2
            go_roundw
            case rel => exact ⟨k + 1, true, (out ++ [e]), by omega, by go_num, rfl, HE, HO5, HB5, HZ5, Q5⟩
            case measure => simp [intOf]; omega
          · have HE := Lib.hid (show putGo e true (l.take (k + 1)) = ((out ++ [e]) ++ [c], true) by rw [HS.out, putStep, HZo.out, HU.out]; simp [h, hne])
            clear HS HZo HU
            go_wp2_with (at_builtin; refine wpList_append_own _ rfl _ _ 22 rfl (w.heap.size + 1) 40 i0 entZ 4 48 Tryz.underlying22 hi0 hz0 hz1 hz2 rfl (by decide) _ _ _ rfl (HO5.out.alloc _) ⟨_, 0, none⟩ 1 1 [.string (S c.path), .int .i64 c.kind, .int .i64 c.mode, .string (S c.data)] rfl rfl (cells4_at _ _ _ _ _ _ _ (by simp)) (by simp [Value.oneCell']) (by unfold maxLen; omega) (by omega) (by simp; have := HB5.out.size; have := HZ5.out; omega) ?_; intro v' w6 w6h hgr5 _; have hb5' := (((Below.refl (w.heap.size + 1) w5).alloc (by have := HZ5.out; omega) _).grown hgr5 (by have := HZ5.out; simp; omega) (fun q hq => ((HO5.out.alloc (.cells #[.string (S c.path), .int .i64 c.kind, .int .i64 c.mode, .string (S c.data)] 40)).lt q hq).1)); have HB6 := Lib.hid (HB5.out.trans (hb5'.mono (Nat.le_succ _))); have HZ6 := Lib.hid (show w.heap.size + 1 ≤ w6.heap.size from Nat.le_trans HZ5.out hb5'.size); have Q6 := Lib.hid (Q5.out.low hb5' (Nat.lt_succ_self _)); have HO6 := Lib.hid (own_snoc w6h); obtain ⟨ao', c', rfl⟩ := ownsRow_form w6h; clear w6h hgr5 hb5' q0 q1 q2 q3 g0 g1 g2 g3; obtain ⟨q0, q1, q2, q3⟩ := Q6.out; obtain ⟨g0, g1, g2, g3⟩ := FX.out _ HB6.out)
            go_roundw
            case rel => exact ⟨k + 1, true, (out ++ [e]) ++ [c], by omega, by go_num, rfl, HE, Lib.hid (by have h := HO6.out; (try rw [List.length_append, List.length_singleton] at h); exact h), HB6, HZ6, Q6⟩
            case measure => simp [intOf]; omega
          · have HE := Lib.hid (show putGo e bo (l.take (k + 1)) = ((out ++ [e]) ++ [c], true) by rw [HS.out, putStep, HZo.out, HU.out]; simp [h, hne])
            clear HS HZo HU
            go_wp2_with (at_builtin; refine wpList_append_own _ rfl _ _ 22 rfl (w.heap.size + 1) 40 i0 entZ 4 48 Tryz.underlying22 hi0 hz0 hz1 hz2 rfl (by decide) _ _ _ rfl (HO5.out.alloc _) ⟨_, 0, none⟩ 1 1 [.string (S c.path), .int .i64 c.kind, .int .i64 c.mode, .string (S c.data)] rfl rfl (cells4_at _ _ _ _ _ _ _ (by simp)) (by simp [Value.oneCell']) (by unfold maxLen; omega) (by omega) (by simp; have := HB5.out.size; have := HZ5.out; omega) ?_; intro v' w6 w6h hgr5 _; have hb5' := (((Below.refl (w.heap.size + 1) w5).alloc (by have := HZ5.out; omega) _).grown hgr5 (by have := HZ5.out; simp; omega) (fun q hq => ((HO5.out.alloc (.cells #[.string (S c.path), .int .i64 c.kind, .int .i64 c.mode, .string (S c.data)] 40)).lt q hq).1)); have HB6 := Lib.hid (HB5.out.trans (hb5'.mono (Nat.le_succ _))); have HZ6 := Lib.hid (show w.heap.size + 1 ≤ w6.heap.size from Nat.le_trans HZ5.out hb5'.size); have Q6 := Lib.hid (Q5.out.low hb5' (Nat.lt_succ_self _)); have HO6 := Lib.hid (own_snoc w6h); obtain ⟨ao', c', rfl⟩ := ownsRow_form w6h; clear w6h hgr5 hb5' q0 q1 q2 q3 g0 g1 g2 g3; obtain ⟨q0, q1, q2, q3⟩ := Q6.out; obtain ⟨g0, g1, g2, g3⟩ := FX.out _ HB6.out)
            go_roundw
            case rel => exact ⟨k + 1, true, (out ++ [e]) ++ [c], by omega, by go_num, rfl, HE, Lib.hid (by have h := HO6.out; (try rw [List.length_append, List.length_singleton] at h); exact h), HB6, HZ6, Q6⟩
            case measure => simp [intOf]; omega
        · have hn : (z == 0) = false := by rw [beq_eq_false_iff_ne]; omega
          have hne : ¬ (z = 0) := by omega
          rcases hway2 with ⟨rfl, rfl⟩ | ⟨rfl, rfl⟩ | rfl
          · have HE := Lib.hid (show putGo e false (l.take (k + 1)) = (out, true) by rw [HS.out, putStep, HZo.out, HU.out]; simp [h, hne])
            clear HS HZo HU
            go_wp2
            go_roundw
            case rel => exact ⟨k + 1, true, out, by omega, by go_num, rfl, HE, HO4, HB4, HZ4, Q4⟩
            case measure => simp [intOf]; omega
          · have HE := Lib.hid (show putGo e true (l.take (k + 1)) = (out ++ [c], true) by rw [HS.out, putStep, HZo.out, HU.out]; simp [h, hne])
            clear HS HZo HU
            go_wp2_with (at_builtin; refine wpList_append_own _ rfl _ _ 22 rfl (w.heap.size + 1) 40 i0 entZ 4 48 Tryz.underlying22 hi0 hz0 hz1 hz2 rfl (by decide) _ _ _ rfl (HO4.out.alloc _) ⟨_, 0, none⟩ 1 1 [.string (S c.path), .int .i64 c.kind, .int .i64 c.mode, .string (S c.data)] rfl rfl (cells4_at _ _ _ _ _ _ _ (by simp)) (by simp [Value.oneCell']) (by unfold maxLen; omega) (by omega) (by simp; have := HB4.out.size; have := HZ4.out; omega) ?_; intro v' w5 w5h hgr5 _; have hb5' := (((Below.refl (w.heap.size + 1) w4).alloc (by have := HZ4.out; omega) _).grown hgr5 (by have := HZ4.out; simp; omega) (fun q hq => ((HO4.out.alloc (.cells #[.string (S c.path), .int .i64 c.kind, .int .i64 c.mode, .string (S c.data)] 40)).lt q hq).1)); have HB5 := Lib.hid (HB4.out.trans (hb5'.mono (Nat.le_succ _))); have HZ5 := Lib.hid (show w.heap.size + 1 ≤ w5.heap.size from Nat.le_trans HZ4.out hb5'.size); have Q5 := Lib.hid (Q4.out.low hb5' (Nat.lt_succ_self _)); have HO5 := Lib.hid (own_snoc w5h); obtain ⟨ao', c', rfl⟩ := ownsRow_form w5h; clear w5h hgr5 hb5' q0 q1 q2 q3 g0 g1 g2 g3; obtain ⟨q0, q1, q2, q3⟩ := Q5.out; obtain ⟨g0, g1, g2, g3⟩ := FX.out _ HB5.out)
            go_roundw
            case rel => exact ⟨k + 1, true, out ++ [c], by omega, by go_num, rfl, HE, Lib.hid (by have h := HO5.out; (try rw [List.length_append, List.length_singleton] at h); exact h), HB5, HZ5, Q5⟩
            case measure => simp [intOf]; omega
          · have HE := Lib.hid (show putGo e bo (l.take (k + 1)) = (out ++ [c], true) by rw [HS.out, putStep, HZo.out, HU.out]; simp [h, hne])
            clear HS HZo HU
            go_wp2_with (at_builtin; refine wpList_append_own _ rfl _ _ 22 rfl (w.heap.size + 1) 40 i0 entZ 4 48 Tryz.underlying22 hi0 hz0 hz1 hz2 rfl (by decide) _ _ _ rfl (HO4.out.alloc _) ⟨_, 0, none⟩ 1 1 [.string (S c.path), .int .i64 c.kind, .int .i64 c.mode, .string (S c.data)] rfl rfl (cells4_at _ _ _ _ _ _ _ (by simp)) (by simp [Value.oneCell']) (by unfold maxLen; omega) (by omega) (by simp; have := HB4.out.size; have := HZ4.out; omega) ?_; intro v' w5 w5h hgr5 _; have hb5' := (((Below.refl (w.heap.size + 1) w4).alloc (by have := HZ4.out; omega) _).grown hgr5 (by have := HZ4.out; simp; omega) (fun q hq => ((HO4.out.alloc (.cells #[.string (S c.path), .int .i64 c.kind, .int .i64 c.mode, .string (S c.data)] 40)).lt q hq).1)); have HB5 := Lib.hid (HB4.out.trans (hb5'.mono (Nat.le_succ _))); have HZ5 := Lib.hid (show w.heap.size + 1 ≤ w5.heap.size from Nat.le_trans HZ4.out hb5'.size); have Q5 := Lib.hid (Q4.out.low hb5' (Nat.lt_succ_self _)); have HO5 := Lib.hid (own_snoc w5h); obtain ⟨ao', c', rfl⟩ := ownsRow_form w5h; clear w5h hgr5 hb5' q0 q1 q2 q3 g0 g1 g2 g3; obtain ⟨q0, q1, q2, q3⟩ := Q5.out; obtain ⟨g0, g1, g2, g3⟩ := FX.out _ HB5.out)
            go_roundw
            case rel => exact ⟨k + 1, true, out ++ [c], by omega, by go_num, rfl, HE, Lib.hid (by have h := HO5.out; (try rw [List.length_append, List.length_singleton] at h); exact h), HB5, HZ5, Q5⟩
            case measure => simp [intOf]; omega
        · have HE := Lib.hid (show putGo e bo (l.take (k + 1)) = (out, d) by rw [HS.out, putStep, HZo.out, HU.out]; simp)
          clear HS HZo HU hway2
          go_wp2
          go_roundw
          case rel => exact ⟨k + 1, d, out, by omega, by go_num, rfl, HE, HO4, HB4, HZ4, Q4⟩
          case measure => simp [intOf]; omega
        · have hnb : (z == 0) = false := by rw [beq_eq_false_iff_ne]; omega
          have hne := hn
          rcases hway2 with ⟨rfl, rfl⟩ | ⟨rfl, rfl⟩ | rfl
          · have HE := Lib.hid (show putGo e false (l.take (k + 1)) = (out, d) by rw [HS.out, putStep, HZo.out, HU.out]; simp [h, hne])
            clear HS HZo HU
            go_wp2
            go_roundw
            case rel => exact ⟨k + 1, d, out, by omega, by go_num, rfl, HE, HO4, HB4, HZ4, Q4⟩
            case measure => simp [intOf]; omega
          · have HE := Lib.hid (show putGo e true (l.take (k + 1)) = (out ++ [c], d) by rw [HS.out, putStep, HZo.out, HU.out]; simp [h, hne])
            clear HS HZo HU
            go_wp2_with (at_builtin; refine wpList_append_own _ rfl _ _ 22 rfl (w.heap.size + 1) 40 i0 entZ 4 48 Tryz.underlying22 hi0 hz0 hz1 hz2 rfl (by decide) _ _ _ rfl (HO4.out.alloc _) ⟨_, 0, none⟩ 1 1 [.string (S c.path), .int .i64 c.kind, .int .i64 c.mode, .string (S c.data)] rfl rfl (cells4_at _ _ _ _ _ _ _ (by simp)) (by simp [Value.oneCell']) (by unfold maxLen; omega) (by omega) (by simp; have := HB4.out.size; have := HZ4.out; omega) ?_; intro v' w5 w5h hgr5 _; have hb5' := (((Below.refl (w.heap.size + 1) w4).alloc (by have := HZ4.out; omega) _).grown hgr5 (by have := HZ4.out; simp; omega) (fun q hq => ((HO4.out.alloc (.cells #[.string (S c.path), .int .i64 c.kind, .int .i64 c.mode, .string (S c.data)] 40)).lt q hq).1)); have HB5 := Lib.hid (HB4.out.trans (hb5'.mono (Nat.le_succ _))); have HZ5 := Lib.hid (show w.heap.size + 1 ≤ w5.heap.size from Nat.le_trans HZ4.out hb5'.size); have Q5 := Lib.hid (Q4.out.low hb5' (Nat.lt_succ_self _)); have HO5 := Lib.hid (own_snoc w5h); obtain ⟨ao', c', rfl⟩ := ownsRow_form w5h; clear w5h hgr5 hb5' q0 q1 q2 q3 g0 g1 g2 g3; obtain ⟨q0, q1, q2, q3⟩ := Q5.out; obtain ⟨g0, g1, g2, g3⟩ := FX.out _ HB5.out)
            go_roundw
            case rel => exact ⟨k + 1, d, out ++ [c], by omega, by go_num, rfl, HE, Lib.hid (by have h := HO5.out; (try rw [List.length_append, List.length_singleton] at h); exact h), HB5, HZ5, Q5⟩
            case measure => simp [intOf]; omega
          · have HE := Lib.hid (show putGo e bo (l.take (k + 1)) = (out ++ [c], d) by rw [HS.out, putStep, HZo.out, HU.out]; simp [h, hne])
            clear HS HZo HU
            go_wp2_with (at_builtin; refine wpList_append_own _ rfl _ _ 22 rfl (w.heap.size + 1) 40 i0 entZ 4 48 Tryz.underlying22 hi0 hz0 hz1 hz2 rfl (by decide) _ _ _ rfl (HO4.out.alloc _) ⟨_, 0, none⟩ 1 1 [.string (S c.path), .int .i64 c.kind, .int .i64 c.mode, .string (S c.data)] rfl rfl (cells4_at _ _ _ _ _ _ _ (by simp)) (by simp [Value.oneCell']) (by unfold maxLen; omega) (by omega) (by simp; have := HB4.out.size; have := HZ4.out; omega) ?_; intro v' w5 w5h hgr5 _; have hb5' := (((Below.refl (w.heap.size + 1) w4).alloc (by have := HZ4.out; omega) _).grown hgr5 (by have := HZ4.out; simp; omega) (fun q hq => ((HO4.out.alloc (.cells #[.string (S c.path), .int .i64 c.kind, .int .i64 c.mode, .string (S c.data)] 40)).lt q hq).1)); have HB5 := Lib.hid (HB4.out.trans (hb5'.mono (Nat.le_succ _))); have HZ5 := Lib.hid (show w.heap.size + 1 ≤ w5.heap.size from Nat.le_trans HZ4.out hb5'.size); have Q5 := Lib.hid (Q4.out.low hb5' (Nat.lt_succ_self _)); have HO5 := Lib.hid (own_snoc w5h); obtain ⟨ao', c', rfl⟩ := ownsRow_form w5h; clear w5h hgr5 hb5' q0 q1 q2 q3 g0 g1 g2 g3; obtain ⟨q0, q1, q2, q3⟩ := Q5.out; obtain ⟨g0, g1, g2, g3⟩ := FX.out _ HB5.out)
            go_roundw
            case rel => exact ⟨k + 1, d, out ++ [c], by omega, by go_num, rfl, HE, Lib.hid (by have h := HO5.out; (try rw [List.length_append, List.length_singleton] at h); exact h), HB5, HZ5, Q5⟩
            case measure => simp [intOf]; omega
      · obtain rfl : k = l.length := by omega
        rw [List.take_length] at HG
        cases d
        · have HE := Lib.hid (show putL l e = out ++ [e] by rw [HPut.out, HG.out]; rfl)
          clear HPut HG
          go_wp2_with (at_builtin; refine wpList_append_own _ rfl _ _ 22 rfl (w.heap.size + 1) 40 i0 entZ 4 48 Tryz.underlying22 hi0 hz0 hz1 hz2 rfl (by decide) _ _ _ rfl (HO.out.alloc _) ⟨_, 0, none⟩ 1 1 [.string (S e.path), .int .i64 e.kind, .int .i64 e.mode, .string (S e.data)] rfl rfl (cells4_at _ _ _ _ _ _ _ (by simp)) (by simp [Value.oneCell']) (by unfold maxLen; omega) (by omega) (by simp; have := HB.out.size; have := HZ.out; omega) ?_; intro v' w5 w5h hgr5 _; have hb5' := (((Below.refl (w.heap.size + 1) wr).alloc (by have := HZ.out; omega) _).grown hgr5 (by have := HZ.out; simp; omega) (fun q hq => ((HO.out.alloc (.cells #[.string (S e.path), .int .i64 e.kind, .int .i64 e.mode, .string (S e.data)] 40)).lt q hq).1)); have HB5 := Lib.hid (HB.out.trans (hb5'.mono (Nat.le_succ _))); have HZ5 := Lib.hid (show w.heap.size + 1 ≤ w5.heap.size from Nat.le_trans HZ.out hb5'.size); have Q5 := Lib.hid (Q.out.low hb5' (Nat.lt_succ_self _)); have HO5 := Lib.hid (own_snoc w5h); obtain ⟨ao', c', rfl⟩ := ownsRow_form w5h; clear w5h hgr5 hb5' q0 q1 q2 q3 ; obtain ⟨q0, q1, q2, q3⟩ := Q5.out)
          go_ret
          exact ⟨_, rfl, by rw [HE.out]; exact ownsRow_base HO5.out (Nat.le_succ _), HB5.out⟩
        · have HE := Lib.hid (show putL l e = out by rw [HPut.out, HG.out]; rfl)
          clear HPut HG
          go_wp2
          go_ret
          exact ⟨_, rfl, by rw [HE.out]; exact ownsRow_base HO.out (Nat.le_succ _), HB.out⟩
end Go.Proofs.YtjampkdbieoboaaGreatDoor
namespace Go.Proofs.YtjampkdbieoboaaGreatDoor
open Go.RowKit

/-- what is shut, in the program's two variables -/
def ShutV (o : Option (List UInt8)) (cl : Bool) (sh : List UInt8) : Prop := (cl = false ∧ o = none) ∨ (cl = true ∧ o = some sh)

set_option maxRecDepth 100000 in
set_option maxHeartbeats 16000000 in
theorem valid_any (l : List Ent) (A : Option Addr) (cap : Nat) (w : World) (hw : Std w) (hr : Rd w A (ents l)) (hl : l.length ≤ 2000000000) (hs : ∀ e ∈ l, e.path.length ≤ 2000000000 ∧ e.data.length ≤ 2000000000) :
    Calls Tryz.prog 22 #[.slice A l.length cap] w fun e w' => ∃ r, e = .returned (.int .i64 r) ∧ First (barP l) l.length r ∧ Below w.heap.size w w' := by
  have HS := Lib.hid hw
  clear hw
  go_enter Tryz.func22, Tryz.ntmps22
  go_wp2
  rw [show (ByteArray.mk #[]) = S [] from rfl]
  go_loopw [3, 4, 11] (fun s3 s4 i wr => ∃ (k : Nat) (sh : List UInt8) (cl : Bool), k ≤ l.length ∧ i = .int .i64 k ∧ s3 = .string (S sh) ∧ s4 = .bool cl ∧ sh.length ≤ 2000000001 ∧ Hid (ShutV (shutOf (l.take k)) cl sh) ∧ Hid (∀ j, j < k → barP l j = false) ∧ Below w.heap.size w wr) (fun _ _ i _ => l.length - (intOf i).toNat)
  case atStart => exact ⟨0, [], false, Nat.zero_le _, rfl, rfl, rfl, by simp, .inl ⟨rfl, rfl⟩, fun j hj => by omega, Below.refl _ _⟩
  case round =>
    obtain ⟨k, sh, cl, hk, rfl, rfl, rfl, hsl, HSh, hpre, hbel⟩ := hrel
    by_cases hlt : k < l.length
    · obtain ⟨b, o, rfl, hbb, g0, g1, g2, g3⟩ := ents_at hr hbel k hlt
      obtain ⟨c, hcc⟩ : ∃ c, l[k] = c := ⟨_, rfl⟩
      obtain ⟨hsp, hsd⟩ := hs c (hcc ▸ List.getElem_mem hlt)
      have HK := Lib.hid (show l[k]? = some c by rw [List.getElem?_eq_getElem hlt, hcc])
      rw [hcc] at g0 g1 g2 g3
      have Q0 := Lib.hid (Cell4.new wr c 29)
      have hb0 : Below w.heap.size w (wr.alloc (.cells #[.string (S c.path), .int .i64 c.kind, .int .i64 c.mode, .string (S c.data)] 29)) := hbel.alloc hbel.size _
      have HB0 := Lib.hid hb0
      have FX := Lib.hid (fun (q : Nat) (hq : q < l.length) (wx : World) (hb : Below w.heap.size w wx) => ents_at hr hb q hq)
      have hkl : (k : Int) < (l.length : Int) := by omega
      clear hcc hb0 hr
      obtain ⟨gx, hgx⟩ : ∃ g, g = wr.heap.size := ⟨_, rfl⟩
      rw [← hgx] at Q0
      go_upto_region 6 with fail
      rw [← hgx]
      clear hgx
      generalize hwz : wr.alloc (.cells #[.string (S c.path), .int .i64 c.kind, .int .i64 c.mode, .string (S c.data)] 29) = wz at *
      clear hwz
      obtain ⟨q0, q1, q2, q3⟩ := Q0.out
      obtain ⟨P6, hP6⟩ : ∃ P, (decide (k < 80) && pathB c.path) = P := ⟨_, rfl⟩
      have HP6 := Lib.hid hP6
      clear hP6
      go_cut [7] (fun v wx => v = .bool P6 ∧ Hid (Cell4 wx gx c) ∧ Hid (Below w.heap.size w wx))
      case first =>
        by_cases h80 : k < 80
        · have f80 : (k : Int) < 80 := by omega
          have Y := Lib.hid (show pathB c.path = P6 by rw [← HP6.out, decide_eq_true h80]; rfl)
          clear h80
          go_wp2_with (go_at_call 33; refine (pathP_any c.path _ (HS.out.below HB0.out) (by omega)).mono ?_; rintro e1 w1 ⟨rfl, hb1⟩; rw [Y.out]; have Q1 := Lib.hid (Q0.out.below hb1); have HB1 := Lib.hid (HB0.out.trans (hb1.mono HB0.out.size)); clear hb1)
          go_meet
          exact ⟨rfl, Q1, HB1⟩
        · have f80 : ¬ ((k : Int) < 80) := by omega
          obtain rfl : false = P6 := by rw [← HP6.out, decide_eq_false h80]; rfl
          clear h80
          go_wp2
          go_meet
          exact ⟨rfl, Q0, HB0⟩
      case rest =>
        obtain ⟨rfl, Q1, HB1⟩ := hcut
        clear Q0 HB0 q0 q1 q2 q3
        obtain ⟨q0, q1, q2, q3⟩ := Q1.out
        obtain ⟨Sh, hSh⟩ : ∃ P, shapeP k c = P := ⟨_, rfl⟩
        have HSp := Lib.hid hSh
        clear hSh
        go_upto_region 7 with fail
        go_cut [24] (fun v wx => v = .int .i64 c.kind ∧ Hid (Cell4 wx gx c) ∧ Hid (Below w.heap.size w wx))
        case first =>
          go_wp2
          go_meet
          exact ⟨rfl, Q1, HB1⟩
        case rest =>
        obtain ⟨rfl, Q2, HB2⟩ := hcut
        clear Q1 HB1 q0 q1 q2 q3
        obtain ⟨q0, q1, q2, q3⟩ := Q2.out
        rename_i hKo K2 hK
        refine hK _ _ ?_
        go_cut [7] (fun v wx => v = .bool Sh ∧ Hid (Cell4 wx gx c) ∧ Hid (Below w.heap.size w wx))
        case first =>
          have HE := Lib.hid (show Sh = (P6 && (if c.kind = 4 then !c.path.isEmpty && decide (c.mode = 0) && c.data.isEmpty else if c.kind = 5 then decide (c.mode = 0) && c.data.isEmpty else !c.path.isEmpty && goodB c)) by rw [← HSp.out, ← HP6.out]; unfold shapeP; rfl)
          clear HSp HP6
          have fe : ∀ s : List UInt8, s = [] → s.isEmpty = true ∧ (s == []) = true := fun s h => by subst h; exact ⟨rfl, rfl⟩
          have fn : ∀ s : List UInt8, s ≠ [] → s.isEmpty = false ∧ (s == []) = false := fun s h => ⟨by rw [List.isEmpty_eq_false_iff]; exact h, by rw [beq_eq_false_iff_ne]; exact h⟩
          by_cases h4 : c.kind = 4
          · have f4 : (c.kind == 4) = true := by rw [beq_iff_eq]; exact h4
            rw [if_pos h4] at HE
            clear h4
            cases P6
            · obtain rfl : Sh = false := by rw [HE.out]; rfl
              clear HE fe fn
              go_wp2
              go_meet
              exact ⟨rfl, Q2, HB2⟩
            · by_cases p0 : c.path = []
              · obtain ⟨e1, e2⟩ := fe _ p0
                obtain rfl : Sh = false := by rw [HE.out, e1]; rfl
                clear HE fe fn p0
                go_wp2
                go_meet
                exact ⟨rfl, Q2, HB2⟩
              · obtain ⟨e1, e2⟩ := fn _ p0
                by_cases m0 : c.mode = 0
                · have fm : (c.mode == 0) = true := by rw [beq_iff_eq]; exact m0
                  by_cases d0 : c.data = []
                  · obtain ⟨e3, e4⟩ := fe _ d0
                    obtain rfl : Sh = true := by rw [HE.out, e1, decide_eq_true m0, e3]; rfl
                    clear HE fe fn p0 m0 d0
                    go_wp2
                    go_meet
                    exact ⟨rfl, Q2, HB2⟩
                  · obtain ⟨e3, e4⟩ := fn _ d0
                    obtain rfl : Sh = false := by rw [HE.out, e1, decide_eq_true m0, e3]; rfl
                    clear HE fe fn p0 m0 d0
                    go_wp2
                    go_meet
                    exact ⟨rfl, Q2, HB2⟩
                · have fm : (c.mode == 0) = false := by rw [beq_eq_false_iff_ne]; exact m0
                  obtain rfl : Sh = false := by rw [HE.out, e1, decide_eq_false m0]; rfl
                  clear HE fe fn p0 m0
                  go_wp2
                  go_meet
                  exact ⟨rfl, Q2, HB2⟩
          · have f4 : (c.kind == 4) = false := by rw [beq_eq_false_iff_ne]; exact h4
            rw [if_neg h4] at HE
            clear h4
            by_cases h5 : c.kind = 5
            · have f5 : (c.kind == 5) = true := by rw [beq_iff_eq]; exact h5
              rw [if_pos h5] at HE
              clear h5
              cases P6
              · obtain rfl : Sh = false := by rw [HE.out]; rfl
                clear HE fe fn
                go_wp2
                go_meet
                exact ⟨rfl, Q2, HB2⟩
              · by_cases m0 : c.mode = 0
                · have fm : (c.mode == 0) = true := by rw [beq_iff_eq]; exact m0
                  by_cases d0 : c.data = []
                  · obtain ⟨e3, e4⟩ := fe _ d0
                    obtain rfl : Sh = true := by rw [HE.out, decide_eq_true m0, e3]; rfl
                    clear HE fe fn m0 d0
                    go_wp2
                    go_meet
                    exact ⟨rfl, Q2, HB2⟩
                  · obtain ⟨e3, e4⟩ := fn _ d0
                    obtain rfl : Sh = false := by rw [HE.out, decide_eq_true m0, e3]; rfl
                    clear HE fe fn m0 d0
                    go_wp2
                    go_meet
                    exact ⟨rfl, Q2, HB2⟩
                · have fm : (c.mode == 0) = false := by rw [beq_eq_false_iff_ne]; exact m0
                  obtain rfl : Sh = false := by rw [HE.out, decide_eq_false m0]; rfl
                  clear HE fe fn m0
                  go_wp2
                  go_meet
                  exact ⟨rfl, Q2, HB2⟩
            · have f5 : (c.kind == 5) = false := by rw [beq_eq_false_iff_ne]; exact h5
              rw [if_neg h5] at HE
              clear h5
              cases P6
              · obtain rfl : Sh = false := by rw [HE.out]; rfl
                clear HE fe fn
                go_wp2
                go_meet
                exact ⟨rfl, Q2, HB2⟩
              · by_cases p0 : c.path = []
                · obtain ⟨e1, e2⟩ := fe _ p0
                  obtain rfl : Sh = false := by rw [HE.out, e1]; rfl
                  clear HE fe fn p0
                  go_wp2
                  go_meet
                  exact ⟨rfl, Q2, HB2⟩
                · obtain ⟨e1, e2⟩ := fn _ p0
                  have Y := Lib.hid (show goodB c = Sh by rw [HE.out, e1]; simp)
                  clear HE fe fn p0
                  go_wp2_with (go_at_call 34; refine (goodP_any c _ (by omega)).mono ?_; rintro e9 w9 ⟨rfl, hb9⟩; rw [Y.out]; have Q3 := Lib.hid (Q2.out.below hb9); have HB3 := Lib.hid (HB2.out.trans (hb9.mono HB2.out.size)); clear hb9)
                  go_meet
                  exact ⟨rfl, Q3, HB3⟩
        case rest =>
        obtain ⟨rfl, Q3, HB3⟩ := hcut
        clear Q2 HB2 q0 q1 q2 q3
        obtain ⟨q0, q1, q2, q3⟩ := Q3.out
        obtain ⟨N, hN⟩ : ∃ N, (match l[k - 1]? with | some x => decide (k = 0) || nextP x c | none => true) = N := ⟨_, rfl⟩
        have HN := Lib.hid hN
        have HBar := Lib.hid (show barP l k = (!(Sh && N) || shutP (shutOf (l.take k)) c) by rw [barP, HK.out, ← HSp.out, ← hN]; rfl)
        clear hN
        go_upto_region 13 with fail
        go_cut [60] (fun v wx => v = .bool (decide (0 < k) && Sh) ∧ Hid (Cell4 wx gx c) ∧ Hid (Below w.heap.size w wx))
        case first =>
          by_cases h0 : 0 < k
          · have f0 : (0 : Int) < (k : Int) := by omega
            have H0 := Lib.hid h0
            clear h0
            go_wp2
            go_meet
            exact ⟨by rw [decide_eq_true H0.out]; rfl, Q3, HB3⟩
          · have f0 : ¬ ((0 : Int) < (k : Int)) := by omega
            have H0 := Lib.hid h0
            clear h0
            go_wp2
            go_meet
            exact ⟨by rw [decide_eq_false H0.out]; rfl, Q3, HB3⟩
        case rest =>
        obtain ⟨rfl, Q4, HB4⟩ := hcut
        clear Q3 HB3 q0 q1 q2 q3
        obtain ⟨q0, q1, q2, q3⟩ := Q4.out
        go_upto_if 60 with fail
        go_cut [7, 8] (fun v d wx => v = .bool (Sh && N) ∧ Hid (Cell4 wx gx c) ∧ Hid (Below w.heap.size w wx))
        case first =>
          by_cases h0 : 0 < k
          · rw [decide_eq_true h0]
            cases Sh
            · clear h0
              go_wp2
              go_meet
              exact ⟨rfl, Q4, HB4⟩
            · obtain ⟨m, hkm⟩ : ∃ m, k = m + 1 := ⟨k - 1, by omega⟩
              have hml : m < l.length := by omega
              obtain ⟨x, hxe⟩ : ∃ x, l[m] = x := ⟨_, rfl⟩
              have FY := Lib.hid (show ∀ wx, Below w.heap.size w wx → wx.cell? ⟨b, o + m * 4, none⟩ = some (.string (S x.path)) ∧ wx.cell? ⟨b, o + m * 4 + 1, none⟩ = some (.int .i64 x.kind) by
                intro wx hb
                obtain ⟨b', o', hAA, _, y0, y1, y2, y3⟩ := FX.out m hml wx hb
                obtain ⟨rfl, rfl⟩ : b' = b ∧ o' = o := by cases hAA; exact ⟨rfl, rfl⟩
                rw [hxe] at y0 y1
                exact ⟨y0, y1⟩)
              obtain ⟨hxp, _⟩ := hs x (hxe ▸ List.getElem_mem hml)
              have hm2 : (m : Int) < (l.length : Int) := by omega
              have hm3 : (0 : Int) ≤ (m : Int) := by omega
              have hwr : IntKind.i64.wrap ((k : Int) - 1) = (m : Int) := by rw [IntKind.wrap_i64]; omega
              obtain ⟨z, hz⟩ : ∃ z, compareL (partsB x.path) (partsB c.path) = z := ⟨_, rfl⟩
              have HZ := Lib.hid hz
              have HNX := Lib.hid (show (true && N) = nextP x c by
                rw [← HN.out, show l[k - 1]? = some x by rw [hkm, Nat.add_sub_cancel, List.getElem?_eq_getElem hml, hxe]]
                show (true && (decide (k = 0) || nextP x c)) = _
                rw [decide_eq_false (by omega : ¬ k = 0)]; simp)
              have hz5 : z < 0 ∨ (z = 0 ∧ x.kind = 1 ∧ c.kind = 5) ∨ (z = 0 ∧ x.kind = 1 ∧ c.kind ≠ 5) ∨ (z = 0 ∧ x.kind ≠ 1) ∨ 0 < z := by
                rcases Int.lt_trichotomy z 0 with h | h | h
                · exact .inl h
                · by_cases h1 : x.kind = 1
                  · by_cases h5 : c.kind = 5
                    · exact .inr (.inl ⟨h, h1, h5⟩)
                    · exact .inr (.inr (.inl ⟨h, h1, h5⟩))
                  · exact .inr (.inr (.inr (.inl ⟨h, h1⟩)))
                · exact .inr (.inr (.inr (.inr h)))
              obtain ⟨y0, y1⟩ := FY.out _ HB4.out
              have HKM := Lib.hid hkm
              clear hkm hxe hz h0
              rcases hz5 with hz | ⟨hz, h1, h5⟩ | ⟨hz, h1, h5⟩ | ⟨hz, h1⟩ | hz
              · have HV := Lib.hid (show (true && N) = true by rw [HNX.out]; unfold nextP; rw [HZ.out]; rw [if_neg (by omega), decide_eq_false (by omega)]; rfl)
                have e0 : (z == 0) = false := by rw [beq_eq_false_iff_ne]; omega
                have e1 : ¬ (0 < z) := by omega
                clear hz
                go_upto_region 14 with fail
                go_still_tail 8, (by kernel_rfl)
                go_wp2_with (go_at_call 35; refine (compareP_any x.path c.path _ (HS.out.below (below_drewN HB4.out 1)) (by omega) (by omega)).mono ?_; rintro e3 w3 ⟨rfl, hb3⟩; rw [HZ.out]; have hb3' := (Below.refl wc.heap.size wc).drew.trans hb3; have HB5 := Lib.hid (HB4.out.trans (hb3'.mono HB4.out.size)); have Q5 := Lib.hid (Q4.out.below hb3'); clear y0 y1 q0 q1 q2 q3; obtain ⟨y0, y1⟩ := FY.out _ HB5.out; obtain ⟨q0, q1, q2, q3⟩ := Q5.out; clear hb3 hb3')
                go_meet
                exact ⟨bool_eq HV.out.symm, Q5, HB5⟩
              · have HV := Lib.hid (show (true && N) = true by rw [HNX.out]; unfold nextP; rw [HZ.out]; rw [if_pos hz, h1, h5]; rfl)
                have e0 : (z == 0) = true := by rw [beq_iff_eq]; exact hz
                have e2 : (x.kind == 1) = true := by rw [beq_iff_eq]; exact h1
                have e3 : (c.kind == 5) = true := by rw [beq_iff_eq]; exact h5
                clear hz h1 h5
                go_upto_region 14 with fail
                go_still_tail 8, (by kernel_rfl)
                go_wp2_with (go_at_call 35; refine (compareP_any x.path c.path _ (HS.out.below (below_drewN HB4.out 1)) (by omega) (by omega)).mono ?_; rintro e3 w3 ⟨rfl, hb3⟩; rw [HZ.out]; have hb3' := (Below.refl wc.heap.size wc).drew.trans hb3; have HB5 := Lib.hid (HB4.out.trans (hb3'.mono HB4.out.size)); have Q5 := Lib.hid (Q4.out.below hb3'); clear y0 y1 q0 q1 q2 q3; obtain ⟨y0, y1⟩ := FY.out _ HB5.out; obtain ⟨q0, q1, q2, q3⟩ := Q5.out; clear hb3 hb3')
                go_meet
                exact ⟨bool_eq HV.out.symm, Q5, HB5⟩
              · have HV := Lib.hid (show (true && N) = false by rw [HNX.out]; unfold nextP; rw [HZ.out]; rw [if_pos hz, h1, decide_eq_false h5]; rfl)
                have e0 : (z == 0) = true := by rw [beq_iff_eq]; exact hz
                have e2 : (x.kind == 1) = true := by rw [beq_iff_eq]; exact h1
                have e3 : (c.kind == 5) = false := by rw [beq_eq_false_iff_ne]; exact h5
                clear hz h1 h5
                go_upto_region 14 with fail
                go_still_tail 8, (by kernel_rfl)
                go_wp2_with (go_at_call 35; refine (compareP_any x.path c.path _ (HS.out.below (below_drewN HB4.out 1)) (by omega) (by omega)).mono ?_; rintro e3 w3 ⟨rfl, hb3⟩; rw [HZ.out]; have hb3' := (Below.refl wc.heap.size wc).drew.trans hb3; have HB5 := Lib.hid (HB4.out.trans (hb3'.mono HB4.out.size)); have Q5 := Lib.hid (Q4.out.below hb3'); clear y0 y1 q0 q1 q2 q3; obtain ⟨y0, y1⟩ := FY.out _ HB5.out; obtain ⟨q0, q1, q2, q3⟩ := Q5.out; clear hb3 hb3')
                go_meet
                exact ⟨bool_eq HV.out.symm, Q5, HB5⟩
              · have HV := Lib.hid (show (true && N) = false by rw [HNX.out]; unfold nextP; rw [HZ.out]; rw [if_pos hz, decide_eq_false h1]; rfl)
                have e0 : (z == 0) = true := by rw [beq_iff_eq]; exact hz
                have e2 : (x.kind == 1) = false := by rw [beq_eq_false_iff_ne]; exact h1
                clear hz h1
                go_upto_region 14 with fail
                go_still_tail 8, (by kernel_rfl)
                go_wp2_with (go_at_call 35; refine (compareP_any x.path c.path _ (HS.out.below (below_drewN HB4.out 1)) (by omega) (by omega)).mono ?_; rintro e3 w3 ⟨rfl, hb3⟩; rw [HZ.out]; have hb3' := (Below.refl wc.heap.size wc).drew.trans hb3; have HB5 := Lib.hid (HB4.out.trans (hb3'.mono HB4.out.size)); have Q5 := Lib.hid (Q4.out.below hb3'); clear y0 y1 q0 q1 q2 q3; obtain ⟨y0, y1⟩ := FY.out _ HB5.out; obtain ⟨q0, q1, q2, q3⟩ := Q5.out; clear hb3 hb3')
                go_meet
                exact ⟨bool_eq HV.out.symm, Q5, HB5⟩
              · have HV := Lib.hid (show (true && N) = false by rw [HNX.out]; unfold nextP; rw [HZ.out]; rw [if_neg (by omega), decide_eq_true (by omega)]; rfl)
                have e0 : (z == 0) = false := by rw [beq_eq_false_iff_ne]; omega
                have e1 : 0 < z := by omega
                clear hz
                go_upto_region 14 with fail
                go_still_tail 8, (by kernel_rfl)
                go_wp2_with (go_at_call 35; refine (compareP_any x.path c.path _ (HS.out.below (below_drewN HB4.out 1)) (by omega) (by omega)).mono ?_; rintro e3 w3 ⟨rfl, hb3⟩; rw [HZ.out]; have hb3' := (Below.refl wc.heap.size wc).drew.trans hb3; have HB5 := Lib.hid (HB4.out.trans (hb3'.mono HB4.out.size)); have Q5 := Lib.hid (Q4.out.below hb3'); clear y0 y1 q0 q1 q2 q3; obtain ⟨y0, y1⟩ := FY.out _ HB5.out; obtain ⟨q0, q1, q2, q3⟩ := Q5.out; clear hb3 hb3')
                go_meet
                exact ⟨bool_eq HV.out.symm, Q5, HB5⟩
          · have HV := Lib.hid (show (Sh && N) = Sh by
              rw [← HN.out, show k = 0 by omega]; cases l[0 - 1]? <;> simp)
            rw [decide_eq_false h0, Bool.false_and]
            clear h0
            go_wp2
            go_meet
            exact ⟨bool_eq HV.out.symm, Q4, HB4⟩
        case rest =>
        obtain ⟨rfl, Q5, HB5⟩ := hcut
        clear Q4 HB4 q0 q1 q2 q3
        obtain ⟨q0, q1, q2, q3⟩ := Q5.out
        cases hOk : (Sh && N)
        · have HB := Lib.hid (show barP l k = true by rw [HBar.out, hOk]; rfl)
          clear hOk
          go_wp2
          go_ret
          exact ⟨k, rfl, .inl ⟨k, hlt, rfl, HB.out, hpre.out⟩, HB5.out⟩
        · have HBs := Lib.hid (show barP l k = shutP (shutOf (l.take k)) c by rw [HBar.out, hOk]; simp)
          clear hOk
          have hw : (cl = true ∧ sh.isPrefixOf c.path = true) ∨ cl = false ∨ (cl = true ∧ sh.isPrefixOf c.path = false) := by
            cases cl
            · exact .inr (.inl rfl)
            · cases sh.isPrefixOf c.path
              · exact .inr (.inr ⟨rfl, rfl⟩)
              · exact .inl ⟨rfl, rfl⟩
          have HPx := Lib.hid (fun wx => hasPrefixT_any c.path sh wx)
          have HTk := Lib.hid (show l.take (k + 1) = l.take k ++ [c] by
            have h := HK.out
            rw [List.getElem?_eq_getElem hlt] at h
            rw [List.take_succ_eq_append_getElem hlt, Option.some.inj h])
          rcases hw with ⟨rfl, hp⟩ | rfl | ⟨rfl, hp⟩
          · have HB := Lib.hid (show barP l k = true by
              rw [HBs.out]
              rcases HSh.out with ⟨h, _⟩ | ⟨_, h⟩
              · cases h
              · rw [h]; exact hp)
            rw [hp] at HPx
            clear hp
            go_wp2_with (go_at_call 37; refine (HPx.out _).mono ?_; rintro e6 w6 ⟨rfl, rfl⟩)
            go_ret
            exact ⟨k, rfl, .inl ⟨k, hlt, rfl, HB.out, hpre.out⟩, HB5.out⟩
          · have HNB := Lib.hid (show barP l k = false by
              rw [HBs.out]
              rcases HSh.out with ⟨_, h⟩ | ⟨h, _⟩
              · rw [h]; rfl
              · cases h)
            have HPr := Lib.hid (show ∀ j, j < k + 1 → barP l j = false by
              intro j hj
              rcases Nat.lt_or_ge j k with h | h
              · exact hpre.out j h
              · obtain rfl : j = k := by omega
                exact HNB.out)
            by_cases h1 : c.kind = 1
            · have e1 : (c.kind != 1) = false := by rw [h1]; rfl
              have HN2 := Lib.hid (show ShutV (shutOf (l.take (k + 1))) false sh by
                rw [HTk.out, shutOf_snoc, show shuts c = false by unfold shuts; rw [decide_eq_true h1]; rfl]; exact HSh.out)
              clear h1
              go_wp2
              go_roundw
              case rel => exact ⟨k + 1, sh, false, by omega, by go_num, rfl, rfl, hsl, HN2, HPr, HB5.out⟩
              case measure => simp [intOf]; omega
            · have e1 : (c.kind != 1) = true := by rw [bne_iff_ne]; exact h1
              by_cases h5 : c.kind = 5
              · have e2 : (c.kind != 5) = false := by rw [h5]; rfl
                have HN2 := Lib.hid (show ShutV (shutOf (l.take (k + 1))) false sh by
                  rw [HTk.out, shutOf_snoc, show shuts c = false by unfold shuts; rw [decide_eq_false h1, decide_eq_true h5]; rfl]; exact HSh.out)
                clear h1 h5
                go_wp2
                go_roundw
                case rel => exact ⟨k + 1, sh, false, by omega, by go_num, rfl, rfl, hsl, HN2, HPr, HB5.out⟩
                case measure => simp [intOf]; omega
              · have e2 : (c.kind != 5) = true := by rw [bne_iff_ne]; exact h5
                have HN2 := Lib.hid (show ShutV (shutOf (l.take (k + 1))) true (c.path ++ [47]) by
                  rw [HTk.out, shutOf_snoc, show shuts c = true from shuts_iff.2 ⟨h1, h5⟩]; exact .inr ⟨rfl, rfl⟩)
                clear h1 h5
                go_wp2
                go_roundw
                case rel => exact ⟨k + 1, c.path ++ [47], true, by omega, by go_num, rfl, rfl, by simp; omega, HN2, HPr, HB5.out⟩
                case measure => simp [intOf]; omega
          · have HNB := Lib.hid (show barP l k = false by
              rw [HBs.out]
              rcases HSh.out with ⟨h, _⟩ | ⟨_, h⟩
              · cases h
              · rw [h]; exact hp)
            rw [hp] at HPx
            clear hp
            have HPr := Lib.hid (show ∀ j, j < k + 1 → barP l j = false by
              intro j hj
              rcases Nat.lt_or_ge j k with h | h
              · exact hpre.out j h
              · obtain rfl : j = k := by omega
                exact HNB.out)
            by_cases h1 : c.kind = 1
            · have e1 : (c.kind != 1) = false := by rw [h1]; rfl
              have HN2 := Lib.hid (show ShutV (shutOf (l.take (k + 1))) true sh by
                rw [HTk.out, shutOf_snoc, show shuts c = false by unfold shuts; rw [decide_eq_true h1]; rfl]; exact HSh.out)
              clear h1
              go_wp2_with (go_at_call 37; refine (HPx.out _).mono ?_; rintro e6 w6 ⟨rfl, rfl⟩)
              go_roundw
              case rel => exact ⟨k + 1, sh, true, by omega, by go_num, rfl, rfl, hsl, HN2, HPr, HB5.out⟩
              case measure => simp [intOf]; omega
            · have e1 : (c.kind != 1) = true := by rw [bne_iff_ne]; exact h1
              by_cases h5 : c.kind = 5
              · have e2 : (c.kind != 5) = false := by rw [h5]; rfl
                have HN2 := Lib.hid (show ShutV (shutOf (l.take (k + 1))) true sh by
                  rw [HTk.out, shutOf_snoc, show shuts c = false by unfold shuts; rw [decide_eq_false h1, decide_eq_true h5]; rfl]; exact HSh.out)
                clear h1 h5
                go_wp2_with (go_at_call 37; refine (HPx.out _).mono ?_; rintro e6 w6 ⟨rfl, rfl⟩)
                go_roundw
                case rel => exact ⟨k + 1, sh, true, by omega, by go_num, rfl, rfl, hsl, HN2, HPr, HB5.out⟩
                case measure => simp [intOf]; omega
              · have e2 : (c.kind != 5) = true := by rw [bne_iff_ne]; exact h5
                have HN2 := Lib.hid (show ShutV (shutOf (l.take (k + 1))) true (c.path ++ [47]) by
                  rw [HTk.out, shutOf_snoc, show shuts c = true from shuts_iff.2 ⟨h1, h5⟩]; exact .inr ⟨rfl, rfl⟩)
                clear h1 h5
                go_wp2_with (go_at_call 37; refine (HPx.out _).mono ?_; rintro e6 w6 ⟨rfl, rfl⟩)
                go_roundw
                case rel => exact ⟨k + 1, c.path ++ [47], true, by omega, by go_num, rfl, rfl, by simp; omega, HN2, HPr, HB5.out⟩
                case measure => simp [intOf]; omega
    · obtain rfl : k = l.length := by omega
      clear hr
      go_wp2
      go_ret
      exact ⟨-1, rfl, .inr ⟨rfl, hpre.out⟩, hbel⟩
end Go.Proofs.YtjampkdbieoboaaGreatDoor
