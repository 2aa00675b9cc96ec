/-
  The document's answer: what is in a directory; is it cleared?
  The document's answer: all paths of two lists.
  The document's answer: what makes one list of another.
-/
import Derived.Deep.DeepCutAuto
import Derived.StillTailTactics
import Derived.Deep.RegionWith
import Derived.BigRegion
import Derived.BigQuiet
import Derived.Test.YtafokdidpbainaaGreatDoorY04
import Derived.Test.YtafokdidpbainaaGreatDoorY07
import Derived.Test.YtafokdidpbainaaGreatDoorY08
import Derived.Test.YtafokdidpbainaaGreatDoorY15
set_option linter.unusedVariables false
set_option linter.unusedSimpArgs false
namespace Go.Proofs.YtafokdidpbainaaGreatDoor
open Go.RowKit

theorem childrenL_take {l : List Ent} {d : List UInt8} {k : Nat} {c : Ent} (h : l[k]? = some c) : childrenL (l.take (k + 1)) d = childrenL (l.take k) d ++ (if (upB c.path).1 = d then [c] else []) := by
  obtain ⟨hk, rfl⟩ := List.getElem?_eq_some_iff.1 h
  rw [List.take_succ_eq_append_getElem hk, childrenL, List.filter_append, childrenL]
  congr 1
  simp only [List.filter_cons, List.filter_nil, decide_eq_true_eq]
set_option maxHeartbeats 4000000 in
theorem children_any (l : List Ent) (d : List UInt8) (A : Option Addr) (cap : Nat) (w : World) (hr : Rd w A (ents l)) (hl : l.length ≤ 1000000) (hs : ∀ e ∈ l, e.path.length ≤ 1000 ∧ e.path ≠ []) (hd : d.length ≤ 1000000) :
    Calls Tryz.prog 41 #[.slice A l.length cap, .string (S d)] w fun e w' => ∃ v, e = .returned v ∧ OwnE w' w.heap.size v (childrenL l d) ∧ Below w.heap.size w w' := by
  obtain ⟨i0, hi0, hz0, hz1, hz2⟩ := info_parts (show (Tryz.prog.info? 49).map (fun i => (i.zero, i.size, i.bytes)) = some (some entZ, 4, 48) by kernel_rfl)
  go_enter Tryz.func41, Tryz.ntmps41
  go_wp2
  replace hr := Lib.hid hr
  replace hs := Lib.hid hs
  go_loopw [6, 5] (fun i vo wr => ∃ k : Nat, k ≤ l.length ∧ i = .int .i64 k ∧ Hid (OwnE wr w.heap.size vo (childrenL (l.take k) d)) ∧ Hid (Below w.heap.size w wr)) (fun i _ _ => l.length - (intOf i).toNat)
  case atStart => exact ⟨0, Nat.zero_le _, rfl, Lib.hid (World.ownsRow_nil _ _ _ _), Lib.hid (Below.refl _ _)⟩
  case round =>
    obtain ⟨k, hk, rfl, HO, HB⟩ := hrel
    obtain ⟨av, cv, rfl⟩ := ownsRow_form HO.out
    by_cases hlt : k < l.length
    · obtain ⟨b, o, rfl, hbb, g0, g1, g2, g3⟩ := ents_at hr.out HB.out k hlt
      obtain ⟨c, hcc⟩ : ∃ c, l[k] = c := ⟨_, rfl⟩
      obtain ⟨hsp, hsn⟩ := hs.out c (hcc ▸ List.getElem_mem hlt)
      have HK := Lib.hid (show l[k]? = some c by rw [List.getElem?_eq_getElem hlt, hcc])
      have HU0 := Lib.hid (List.length_pos_iff.2 (partsB_ne hsn))
      have FX := Lib.hid (fun (wx : World) (hb : Below w.heap.size w wx) => by
        have h := ents_at hr.out hb k hlt
        rw [hcc] at h
        obtain ⟨b', o', hAA, _, y0, y1, y2, y3⟩ := h
        obtain ⟨rfl, rfl⟩ : b' = b ∧ o' = o := by cases hAA; exact ⟨rfl, rfl⟩
        exact (⟨y0, y1, y2, y3⟩ : wx.cell? ⟨b', o' + k * 4, none⟩ = some (.string (S c.path)) ∧ wx.cell? ⟨b', o' + k * 4 + 1, none⟩ = some (.int .i64 c.kind) ∧ wx.cell? ⟨b', o' + k * 4 + 2, none⟩ = some (.int .i64 c.mode) ∧ wx.cell? ⟨b', o' + k * 4 + 3, none⟩ = some (.string (S c.data))))
      rw [hcc] at g0 g1 g2 g3
      have hkl : (k : Int) < (l.length : Int) := by omega
      clear hcc hsn
      have hob : (childrenL (l.take k) d).length ≤ 1000000 := by
        have := List.length_filter_le (fun c : Ent => decide ((upB c.path).1 = d)) (l.take k)
        rw [List.length_take] at this; unfold childrenL; omega
      have HW := Lib.hid (childrenL_take (d := d) HK.out)
      generalize childrenL (l.take k) d = out at *
      go_wp2_with fail
      refine (upR_any c.path _ (by omega) HU0.out).mono ?_
      rintro e1 w1 ⟨rfl, hb1⟩
      have HB1 := Lib.hid (HB.out.trans (hb1.mono HB.out.size))
      have HO1 := Lib.hid (ownsRow_below HO.out hb1)
      clear g0 g1 g2 g3 hb1 HO HB
      obtain ⟨g0, g1, g2, g3⟩ := FX.out _ HB1.out
      obtain ⟨u1, hu1⟩ : ∃ u, (upB c.path).1 = u := ⟨_, rfl⟩
      obtain ⟨u2, hu2⟩ : ∃ u, (upB c.path).2 = u := ⟨_, rfl⟩
      rw [hu1, hu2]
      rw [hu1] at HW
      clear hu1 hu2
      by_cases h : u1 = d
      · have f1 : (u1 == d) = true := by rw [beq_iff_eq]; exact h
        have HE := Lib.hid (show childrenL (l.take (k + 1)) d = out ++ [⟨c.path, c.kind, c.mode, c.data⟩] by rw [HW.out, if_pos h])
        clear h HW
        go_wp2_with (at_builtin; refine wpList_append_own _ rfl _ _ 22 rfl w.heap.size 49 i0 entZ 4 48 Tryz.underlying22 hi0 hz0 hz1 hz2 rfl (by decide) _ _ _ rfl (HO1.out.alloc _) ⟨_, 0, none⟩ 1 1 [.string (S c.path), .int .i64 c.kind, .int .i64 c.mode, .string (S c.data)] rfl rfl (cells4_at _ _ _ _ _ _ _ (by simp)) (by simp [Value.oneCell']) (by unfold maxLen; omega) (by omega) (by simp; have := HB1.out.size; omega) ?_; intro v' w5 hown5 hgr5 _; have HB5 := Lib.hid ((HB1.out.alloc HB1.out.size _).grown hgr5 (by have := HB1.out.size; simp; omega) (fun q hq => ((HO1.out.alloc (.cells #[.string (S c.path), .int .i64 c.kind, .int .i64 c.mode, .string (S c.data)] 49)).lt q hq).1)); have HO5 := Lib.hid (own_snoc hown5); obtain ⟨ao', c', rfl⟩ := ownsRow_form hown5; clear hown5 hgr5)
        go_roundw
        case rel => exact ⟨k + 1, by omega, by go_num, by rw [HE.out]; exact HO5, HB5⟩
        case measure => simp [intOf]; omega
      · have f1 : (u1 == d) = false := by rw [beq_eq_false_iff_ne]; exact h
        have HE := Lib.hid (show childrenL (l.take (k + 1)) d = out by rw [HW.out, if_neg h, List.append_nil])
        clear h HW
        go_wp2
        go_roundw
        case rel => exact ⟨k + 1, by omega, by go_num, by rw [HE.out]; exact HO1, HB1⟩
        case measure => simp [intOf]; omega
    · obtain rfl : k = l.length := by omega
      rw [List.take_length] at HO ⊢
      go_wp2
      go_ret
      exact ⟨_, rfl, HO.out, HB.out⟩
theorem cleared_no {a b : List Ent} {d : List UInt8} (h : kindL a d ≠ 1 ∨ kindL b d ≠ 1) : clearedL a b d = false := by
  unfold clearedL
  rcases h with h | h <;> simp [h]
theorem cleared_yes {a b : List Ent} {d : List UInt8} (h : kindL a d = 1) (h2 : kindL b d = 1) : clearedL a b d = ((childrenL a d).all (fun c => decide (kindL b c.path = 0)) && decide (1 < (childrenL a d).length)) := by
  unfold clearedL
  simp [h, h2]
set_option maxHeartbeats 4000000 in
theorem cleared_any (a b : List Ent) (d : List UInt8) (A B : Option Addr) (capA capB : Nat) (w : World) (ha : Rd w A (ents a)) (hb : Rd w B (ents b)) (hla : a.length ≤ 1000000) (hlb : b.length ≤ 1000000) (hsa : ∀ e ∈ a, e.path.length ≤ 1000 ∧ e.path ≠ []) (hsb : ∀ e ∈ b, e.path.length ≤ 1000 ∧ e.path ≠ []) (hd : d.length ≤ 1000000) :
    Calls Tryz.prog 28 #[.slice A a.length capA, .slice B b.length capB, .string (S d)] w fun e w' => e = .returned (.bool (clearedL a b d)) ∧ Below w.heap.size w w' := by
  have HKa := Lib.hid (kindR_any a d A capA w ha (by omega) (fun e he => by have := (hsa e he).1; omega) (by omega))
  have HKb := Lib.hid (kindR_any b d B capB w hb (by omega) (fun e he => by have := (hsb e he).1; omega) (by omega))
  have HCh := Lib.hid (children_any a d A capA w ha hla hsa hd)
  have HBr := Lib.hid hb
  have HSb := Lib.hid hsb
  have HSa := Lib.hid hsa
  clear ha hb hsa hsb
  obtain ⟨x, hx⟩ : ∃ x, kindL a d = x := ⟨_, rfl⟩
  obtain ⟨y, hy⟩ : ∃ y, kindL b d = y := ⟨_, rfl⟩
  have HX := Lib.hid hx
  have HY := Lib.hid hy
  rw [hx] at HKa
  rw [hy] at HKb
  clear hx hy
  go_enter Tryz.func28, Tryz.ntmps28
  by_cases x1 : x = 1
  · by_cases y1 : y = 1
    · have fx : (x != 1) = false := by rw [x1]; rfl
      have fy : (y != 1) = false := by rw [y1]; rfl
      have HE := Lib.hid (cleared_yes (HX.out.trans x1) (HY.out.trans y1))
      clear x1 y1 HX HY
      go_wp2_with fail
      refine HKa.out.mono ?_
      rintro e1 w1 ⟨rfl, rfl⟩
      go_wp2_with fail
      refine HKb.out.mono ?_
      rintro e1 w1 ⟨rfl, rfl⟩
      go_wp2_with fail
      refine HCh.out.mono ?_
      rintro e1 w1 ⟨v, rfl, hown, hb1⟩
      have HB1 := Lib.hid hb1
      have HRb := Lib.hid (HBr.out.below hb1)
      obtain ⟨av, cv, rfl⟩ := ownsRow_form hown
      obtain ⟨A1, c1, hv, _, _, hrd⟩ := Rd.of_own hown
      cases hv
      have HRd := Lib.hid hrd
      have hcl : (childrenL a d).length ≤ 1000000 := by
        have := List.length_filter_le (fun c : Ent => decide ((upB c.path).1 = d)) a
        unfold childrenL; omega
      have HSc := Lib.hid (fun e (he : e ∈ childrenL a d) => HSa.out e (List.mem_filter.1 he).1)
      clear hown hb1 hrd HKa HKb HCh
      generalize childrenL a d = ch at *
      go_wp2
      go_loopw [8] (fun i wr => ∃ k : Nat, k ≤ ch.length ∧ i = .int .i64 k ∧ Hid (∀ j (hj : j < ch.length), j < k → kindL b ch[j].path = 0) ∧ w1 = wr) (fun i _ => ch.length - (intOf i).toNat)
      case atStart => exact ⟨0, Nat.zero_le _, rfl, Lib.hid (fun j _ hj => by omega), rfl⟩
      case round =>
        obtain ⟨k, hk, rfl, HA, rfl⟩ := hrel
        by_cases hlt : k < ch.length
        · obtain ⟨b1, o1, rfl, hbb, g0, g1, g2, g3⟩ := ents_at HRd.out (Below.refl _ _) k hlt
          obtain ⟨c, hcc⟩ : ∃ c, ch[k] = c := ⟨_, rfl⟩
          obtain ⟨hsp, hsn⟩ := HSc.out c (hcc ▸ List.getElem_mem hlt)
          have HKc := Lib.hid (kindR_any b c.path B capB w1 HRb.out (by omega) (fun e he => by have := (HSb.out e he).1; omega) (by omega))
          have hkl : (k : Int) < (ch.length : Int) := by omega
          have HCc := Lib.hid hcc
          rw [hcc] at g0 g1 g2 g3
          obtain ⟨z, hz⟩ : ∃ z, kindL b c.path = z := ⟨_, rfl⟩
          rw [hz] at HKc
          have HZ := Lib.hid hz
          clear hcc hsn hz
          by_cases z0 : z = 0
          · have fz : (z != 0) = false := by rw [z0]; rfl
            have HA2 := Lib.hid (fun j (hj : j < ch.length) (hjk : j < k + 1) => show kindL b ch[j].path = 0 by
              by_cases e : j = k
              · subst e; rw [HCc.out, HZ.out, z0]
              · exact HA.out j hj (by omega))
            clear z0
            go_wp2_with fail
            refine HKc.out.mono ?_
            rintro e2 w2 ⟨rfl, rfl⟩
            go_wp2
            go_roundw
            case rel => exact ⟨k + 1, by omega, by go_num, HA2, trivial⟩
            case measure => simp [intOf]; omega
          · have fz : (z != 0) = true := by rw [bne_iff_ne]; exact z0
            have HF := Lib.hid (show ch.all (fun c => decide (kindL b c.path = 0)) = false by
              rw [List.all_eq_false]
              exact ⟨c, HCc.out ▸ List.getElem_mem hlt, by rw [HZ.out]; simpa using z0⟩)
            clear z0
            go_wp2_with fail
            refine HKc.out.mono ?_
            rintro e2 w2 ⟨rfl, rfl⟩
            go_wp2
            go_ret
            exact ⟨by rw [HE.out, HF.out]; rfl, HB1.out⟩
        · obtain rfl : k = ch.length := by omega
          have HT := Lib.hid (show ch.all (fun c => decide (kindL b c.path = 0)) = true by
            rw [List.all_eq_true]
            intro c hc
            obtain ⟨j, hj, rfl⟩ := List.getElem_of_mem hc
            rw [decide_eq_true_eq]; exact HA.out j hj hj)
          by_cases h1 : 1 < ch.length
          · have f1 : (1 : Int) < (ch.length : Int) := by omega
            have HE2 := Lib.hid (HE.out.trans (by rw [HT.out, decide_eq_true h1]; rfl : _ = true))
            clear h1
            go_wp2
            go_ret
            exact ⟨by rw [HE2.out]; rfl, HB1.out⟩
          · have f1 : ¬ (1 : Int) < (ch.length : Int) := by omega
            have HE2 := Lib.hid (HE.out.trans (by rw [HT.out, decide_eq_false h1]; rfl : _ = false))
            clear h1
            go_wp2
            go_ret
            exact ⟨by rw [HE2.out]; rfl, HB1.out⟩
    · have fx : (x != 1) = false := by rw [x1]; rfl
      have fy : (y != 1) = true := by rw [bne_iff_ne]; exact y1
      have HE := Lib.hid (cleared_no (.inr (by rw [HY.out]; exact y1) : kindL a d ≠ 1 ∨ kindL b d ≠ 1))
      clear x1 y1 HX HY HCh
      go_wp2_with fail
      refine HKa.out.mono ?_
      rintro e1 w1 ⟨rfl, rfl⟩
      go_wp2_with fail
      refine HKb.out.mono ?_
      rintro e1 w1 ⟨rfl, rfl⟩
      go_wp2
      go_ret
      exact ⟨by rw [HE.out]; rfl, Below.refl _ _⟩
  · have fx : (x != 1) = true := by rw [bne_iff_ne]; exact x1
    have HE := Lib.hid (cleared_no (.inl (by rw [HX.out]; exact x1) : kindL a d ≠ 1 ∨ kindL b d ≠ 1))
    clear x1 HX HY HCh HKb
    go_wp2_with fail
    refine HKa.out.mono ?_
    rintro e1 w1 ⟨rfl, rfl⟩
    go_wp2
    go_ret
    exact ⟨by rw [HE.out]; rfl, Below.refl _ _⟩
end Go.Proofs.YtafokdidpbainaaGreatDoor
namespace Go.Proofs.YtafokdidpbainaaGreatDoor
open Go.RowKit

theorem mergeL_nil (a : List Ent) : mergeL a [] = a.map Ent.path := by
  cases a <;> simp [mergeL]
theorem mergeL_lt {a b : List Ent} {i k : Nat} (hi : i < a.length) (hk : k < b.length) (h : orderL (partsB a[i].path) (partsB b[k].path) < 0) : mergeL (a.drop i) (b.drop k) = a[i].path :: mergeL (a.drop (i + 1)) (b.drop k) := by
  rw [drop_cons a i hi, drop_cons b k hk, mergeL, if_pos h]
theorem mergeL_eq {a b : List Ent} {i k : Nat} (hi : i < a.length) (hk : k < b.length) (h : orderL (partsB a[i].path) (partsB b[k].path) = 0) : mergeL (a.drop i) (b.drop k) = a[i].path :: mergeL (a.drop (i + 1)) (b.drop (k + 1)) := by
  rw [drop_cons a i hi, drop_cons b k hk, mergeL, if_neg (by omega), if_pos h]
theorem mergeL_gt {a b : List Ent} {i k : Nat} (hi : i < a.length) (hk : k < b.length) (h : 0 < orderL (partsB a[i].path) (partsB b[k].path)) : mergeL (a.drop i) (b.drop k) = b[k].path :: mergeL (a.drop i) (b.drop (k + 1)) := by
  rw [drop_cons a i hi, drop_cons b k hk, mergeL, if_neg (by omega), if_neg (by omega)]
theorem mergeL_a {a b : List Ent} {i : Nat} (hi : i < a.length) : mergeL (a.drop i) (b.drop b.length) = a[i].path :: mergeL (a.drop (i + 1)) (b.drop b.length) := by
  rw [List.drop_length, mergeL_nil, mergeL_nil, drop_cons a i hi, List.map_cons]
theorem mergeL_b {a b : List Ent} {k : Nat} (hk : k < b.length) : mergeL (a.drop a.length) (b.drop k) = b[k].path :: mergeL (a.drop a.length) (b.drop (k + 1)) := by
  rw [List.drop_length, mergeL, mergeL, drop_cons b k hk, List.map_cons]
theorem own_one (w : World) : (w.alloc (.cells #[.string (S [])] tStr)).ownsRow w.heap.size tStr 1 (.slice (some ⟨w.heap.size, 0, none⟩) 1 1) 1 (strs [[]]) :=
  ⟨by simp [strs], .inr ⟨w.heap.size, 1, #[.string (S [])], rfl, Nat.le_refl _, Go.heap_alloc_new w _, by decide, by decide, by simp, by simp [strs]⟩⟩
theorem strs_snoc {w : World} {B : Nat} {v : Value} {l : List (List UInt8)} {x : List UInt8} (h : w.ownsRow B tStr 1 v (l.length + 1) (strs l ++ [.string (S x)])) : w.ownsRow B tStr 1 v (l ++ [x]).length (strs (l ++ [x])) := by
  rw [strs_one, List.length_append, List.length_singleton]; exact h
set_option maxRecDepth 100000 in
set_option maxHeartbeats 8000000 in
theorem both_any (a b : List Ent) (A B : Option Addr) (capA capB : Nat) (w : World) (ha : Rd w A (ents a)) (hb : Rd w B (ents b)) (hla : a.length ≤ 1000000) (hlb : b.length ≤ 1000000) (hsa : ∀ e ∈ a, e.path.length ≤ 1000) (hsb : ∀ e ∈ b, e.path.length ≤ 1000) :
    Calls Tryz.prog 26 #[.slice A a.length capA, .slice B b.length capB] w fun e w' => ∃ v, e = .returned v ∧ w'.ownsRow w.heap.size tStr 1 v ([] :: mergeL a b).length (strs ([] :: mergeL a b)) ∧ Below w.heap.size w w' := by
  obtain ⟨i0, hi, hz0, hz1, hz2⟩ := info_parts (show (Tryz.prog.info? tStr).map (fun i => (i.zero, i.size, i.bytes)) = some (some (.string (S [])), 1, 16) by kernel_rfl)
  have HA := Lib.hid ha
  have HBb := Lib.hid hb
  have HSa := Lib.hid hsa
  have HSb := Lib.hid hsb
  clear ha hb hsa hsb
  have HO0 := Lib.hid (own_one w)
  have HB0 := Lib.hid ((Below.refl w.heap.size w).alloc (Nat.le_refl _) (.cells #[.string (S [])] tStr))
  go_enter Tryz.func26, Tryz.ntmps26
  go_wp2
  go_loopw [6, 7, 5] (fun si sk vo wr => ∃ (i k : Nat) (S0 : List (List UInt8)), i ≤ a.length ∧ k ≤ b.length ∧ si = .int .i64 i ∧ sk = .int .i64 k ∧ S0.length ≤ 1 + i + k ∧ Hid ([] :: mergeL a b = S0 ++ mergeL (a.drop i) (b.drop k)) ∧ Hid (wr.ownsRow w.heap.size tStr 1 vo S0.length (strs S0)) ∧ Hid (Below w.heap.size w wr)) (fun si sk _ _ => (a.length - (intOf si).toNat) + (b.length - (intOf sk).toNat))
  case atStart => exact ⟨0, 0, [[]], Nat.zero_le _, Nat.zero_le _, rfl, rfl, by simp, Lib.hid rfl, HO0, HB0⟩
  case round =>
    clear HO0 HB0
    obtain ⟨i, k, S0, hi1, hk1, rfl, rfl, hsl, HM, HO, HB⟩ := hrel
    obtain ⟨av, cv, rfl⟩ := ownsRow_form HO.out
    by_cases hia : i < a.length
    · have fia : (i : Int) < (a.length : Int) := by omega
      have fie : ((i : Int) == (a.length : Int)) = false := by rw [beq_eq_false_iff_ne]; omega
      obtain ⟨ba, oa, hAe, hba, g0, g1, g2, g3⟩ := ents_at HA.out HB.out i hia
      subst hAe
      obtain ⟨ca, hca⟩ : ∃ c, a[i] = c := ⟨_, rfl⟩
      have hpa := HSa.out ca (hca ▸ List.getElem_mem hia)
      rw [hca] at g0 g1 g2 g3
      by_cases hkb : k < b.length
      · have fkb : (k : Int) < (b.length : Int) := by omega
        have fke : ((k : Int) == (b.length : Int)) = false := by rw [beq_eq_false_iff_ne]; omega
        obtain ⟨bb, ob, hBe, hbb, y0, y1, y2, y3⟩ := ents_at HBb.out HB.out k hkb
        subst hBe
        obtain ⟨cb, hcb⟩ : ∃ c, b[k] = c := ⟨_, rfl⟩
        have hpb := HSb.out cb (hcb ▸ List.getElem_mem hkb)
        rw [hcb] at y0 y1 y2 y3
        have hlt := fun (h : orderL (partsB (a[i]'hia).path) (partsB (b[k]'hkb).path) < 0) => mergeL_lt hia hkb h
        have heq := fun (h : orderL (partsB (a[i]'hia).path) (partsB (b[k]'hkb).path) = 0) => mergeL_eq hia hkb h
        have hgt := fun (h : 0 < orderL (partsB (a[i]'hia).path) (partsB (b[k]'hkb).path)) => mergeL_gt hia hkb h
        rw [hca, hcb] at hlt heq hgt
        obtain ⟨z, hz⟩ : ∃ z, orderL (partsB ca.path) (partsB cb.path) = z := ⟨_, rfl⟩
        rw [hz] at hlt heq hgt
        have HLt := Lib.hid hlt
        have HEq := Lib.hid heq
        have HGt := Lib.hid hgt
        have HZ := Lib.hid hz
        clear hlt heq hgt hz hca hcb
        have FX := Lib.hid (fun (wx : World) (hb : Below wr.heap.size wr wx) => (⟨(hb.cell (p := ⟨ba, oa + i * 4, none⟩) (Nat.lt_of_lt_of_le hba HB.out.size)).trans g0, (hb.cell (p := ⟨bb, ob + k * 4, none⟩) (Nat.lt_of_lt_of_le hbb HB.out.size)).trans y0⟩ : wx.cell? ⟨ba, oa + i * 4, none⟩ = some (.string (S ca.path)) ∧ wx.cell? ⟨bb, ob + k * 4, none⟩ = some (.string (S cb.path))))
        have hway : (z < 0 ∧ z ≠ 0) ∨ z = 0 ∨ (0 < z ∧ z ≠ 0) := by omega
        rcases hway with ⟨hz, hz0⟩ | hz | ⟨hz, hz0⟩
        · have HM2 := Lib.hid (show [] :: mergeL a b = (S0 ++ [ca.path]) ++ mergeL (a.drop (i + 1)) (b.drop k) by rw [HM.out, HLt.out hz, List.append_assoc]; rfl)
          have e1 : z ≤ 0 := by omega
          have e2 : ¬ 0 ≤ z := by omega
          clear hz0 HLt HEq HGt
          go_upto_region 6 with fail
          go_still_tail 10, (by kernel_rfl)
          go_wp2_with (first | (go_at_call 22; refine (orderR_any ca.path cb.path _ (by omega) (by omega)).mono ?_; rintro e3 w3 ⟨rfl, hb3⟩; rw [HZ.out]; have hb3' := (Below.refl wr.heap.size wr).drew.trans hb3; obtain ⟨x0, x1⟩ := FX.out _ hb3'; have HO3 := Lib.hid (ownsRow_below HO.out hb3'); have HB3 := Lib.hid (HB.out.trans (hb3'.mono HB.out.size)); clear hb3 hb3' HO HB g0 g1 g2 g3 y0 y1 y2 y3; have HO := HO3; have HB := HB3; clear HO3 HB3) | (at_builtin; refine wpList_append_own _ rfl _ _ 60 rfl w.heap.size tStr i0 (.string (S [])) 1 16 Tryz.underlying60 hi hz0 hz1 hz2 rfl (by decide) _ _ _ rfl (HO.out.alloc (.cells #[.string (S ca.path)] tStr)) ⟨_, 0, none⟩ 1 1 [.string (S ca.path)] rfl rfl (cell_one_new _ _ _) (by simp [Value.oneCell']) (by unfold maxLen; omega) (by omega) (by simp; have := HB.out.size; omega) ?_; intro v' w5 hown5 hgr5 _; have HB5 := Lib.hid ((HB.out.alloc HB.out.size _).grown hgr5 (by have := HB.out.size; simp; omega) (fun q hq => ((HO.out.alloc (.cells #[.string (S ca.path)] tStr)).lt q hq).1)); have HO5 := Lib.hid (strs_snoc hown5); obtain ⟨ao', c', rfl⟩ := ownsRow_form hown5; clear hown5 hgr5))
          go_roundw
          case rel => exact ⟨i + 1, k, S0 ++ [ca.path], by omega, by omega, by go_num, by go_num, by simp; omega, HM2, HO5, HB5⟩
          case measure => simp [intOf]; omega
        · have HM2 := Lib.hid (show [] :: mergeL a b = (S0 ++ [ca.path]) ++ mergeL (a.drop (i + 1)) (b.drop (k + 1)) by rw [HM.out, HEq.out hz, List.append_assoc]; rfl)
          have e1 : z ≤ 0 := by omega
          have e2 : 0 ≤ z := by omega
          clear hz HLt HEq HGt
          go_upto_region 6 with fail
          go_still_tail 10, (by kernel_rfl)
          go_wp2_with (first | (go_at_call 22; refine (orderR_any ca.path cb.path _ (by omega) (by omega)).mono ?_; rintro e3 w3 ⟨rfl, hb3⟩; rw [HZ.out]; have hb3' := (Below.refl wr.heap.size wr).drew.trans hb3; obtain ⟨x0, x1⟩ := FX.out _ hb3'; have HO3 := Lib.hid (ownsRow_below HO.out hb3'); have HB3 := Lib.hid (HB.out.trans (hb3'.mono HB.out.size)); clear hb3 hb3' HO HB g0 g1 g2 g3 y0 y1 y2 y3; have HO := HO3; have HB := HB3; clear HO3 HB3) | (at_builtin; refine wpList_append_own _ rfl _ _ 60 rfl w.heap.size tStr i0 (.string (S [])) 1 16 Tryz.underlying60 hi hz0 hz1 hz2 rfl (by decide) _ _ _ rfl (HO.out.alloc (.cells #[.string (S ca.path)] tStr)) ⟨_, 0, none⟩ 1 1 [.string (S ca.path)] rfl rfl (cell_one_new _ _ _) (by simp [Value.oneCell']) (by unfold maxLen; omega) (by omega) (by simp; have := HB.out.size; omega) ?_; intro v' w5 hown5 hgr5 _; have HB5 := Lib.hid ((HB.out.alloc HB.out.size _).grown hgr5 (by have := HB.out.size; simp; omega) (fun q hq => ((HO.out.alloc (.cells #[.string (S ca.path)] tStr)).lt q hq).1)); have HO5 := Lib.hid (strs_snoc hown5); obtain ⟨ao', c', rfl⟩ := ownsRow_form hown5; clear hown5 hgr5))
          go_roundw
          case rel => exact ⟨i + 1, k + 1, S0 ++ [ca.path], by omega, by omega, by go_num, by go_num, by simp; omega, HM2, HO5, HB5⟩
          case measure => simp [intOf]; omega
        · have HM2 := Lib.hid (show [] :: mergeL a b = (S0 ++ [cb.path]) ++ mergeL (a.drop i) (b.drop (k + 1)) by rw [HM.out, HGt.out hz, List.append_assoc]; rfl)
          have e1 : ¬ z ≤ 0 := by omega
          have e2 : 0 ≤ z := by omega
          clear hz0 HLt HEq HGt
          go_upto_region 6 with fail
          go_still_tail 10, (by kernel_rfl)
          go_wp2_with (first | (go_at_call 22; refine (orderR_any ca.path cb.path _ (by omega) (by omega)).mono ?_; rintro e3 w3 ⟨rfl, hb3⟩; rw [HZ.out]; have hb3' := (Below.refl wr.heap.size wr).drew.trans hb3; obtain ⟨x0, x1⟩ := FX.out _ hb3'; have HO3 := Lib.hid (ownsRow_below HO.out hb3'); have HB3 := Lib.hid (HB.out.trans (hb3'.mono HB.out.size)); clear hb3 hb3' HO HB g0 g1 g2 g3 y0 y1 y2 y3; have HO := HO3; have HB := HB3; clear HO3 HB3) | (at_builtin; refine wpList_append_own _ rfl _ _ 60 rfl w.heap.size tStr i0 (.string (S [])) 1 16 Tryz.underlying60 hi hz0 hz1 hz2 rfl (by decide) _ _ _ rfl (HO.out.alloc (.cells #[.string (S cb.path)] tStr)) ⟨_, 0, none⟩ 1 1 [.string (S cb.path)] rfl rfl (cell_one_new _ _ _) (by simp [Value.oneCell']) (by unfold maxLen; omega) (by omega) (by simp; have := HB.out.size; omega) ?_; intro v' w5 hown5 hgr5 _; have HB5 := Lib.hid ((HB.out.alloc HB.out.size _).grown hgr5 (by have := HB.out.size; simp; omega) (fun q hq => ((HO.out.alloc (.cells #[.string (S cb.path)] tStr)).lt q hq).1)); have HO5 := Lib.hid (strs_snoc hown5); obtain ⟨ao', c', rfl⟩ := ownsRow_form hown5; clear hown5 hgr5))
          go_roundw
          case rel => exact ⟨i, k + 1, S0 ++ [cb.path], by omega, by omega, by go_num, by go_num, by simp; omega, HM2, HO5, HB5⟩
          case measure => simp [intOf]; omega
      · obtain rfl : k = b.length := by omega
        have HM2 := Lib.hid (show [] :: mergeL a b = (S0 ++ [ca.path]) ++ mergeL (a.drop (i + 1)) (b.drop b.length) by rw [HM.out, mergeL_a hia, hca, List.append_assoc]; rfl)
        clear hca
        go_wp2_with (at_builtin; refine wpList_append_own _ rfl _ _ 60 rfl w.heap.size tStr i0 (.string (S [])) 1 16 Tryz.underlying60 hi hz0 hz1 hz2 rfl (by decide) _ _ _ rfl (HO.out.alloc (.cells #[.string (S ca.path)] tStr)) ⟨_, 0, none⟩ 1 1 [.string (S ca.path)] rfl rfl (cell_one_new _ _ _) (by simp [Value.oneCell']) (by unfold maxLen; omega) (by omega) (by simp; have := HB.out.size; omega) ?_; intro v' w5 hown5 hgr5 _; have HB5 := Lib.hid ((HB.out.alloc HB.out.size _).grown hgr5 (by have := HB.out.size; simp; omega) (fun q hq => ((HO.out.alloc (.cells #[.string (S ca.path)] tStr)).lt q hq).1)); have HO5 := Lib.hid (strs_snoc hown5); obtain ⟨ao', c', rfl⟩ := ownsRow_form hown5; clear hown5 hgr5)
        go_roundw
        case rel => exact ⟨i + 1, b.length, S0 ++ [ca.path], by omega, by omega, by go_num, by go_num, by simp; omega, HM2, HO5, HB5⟩
        case measure => simp [intOf]; omega
    · obtain rfl : i = a.length := by omega
      by_cases hkb : k < b.length
      · have fkb : (k : Int) < (b.length : Int) := by omega
        obtain ⟨bb, ob, hBe, hbb, y0, y1, y2, y3⟩ := ents_at HBb.out HB.out k hkb
        subst hBe
        obtain ⟨cb, hcb⟩ : ∃ c, b[k] = c := ⟨_, rfl⟩
        have hpb := HSb.out cb (hcb ▸ List.getElem_mem hkb)
        have HM2 := Lib.hid (show [] :: mergeL a b = (S0 ++ [cb.path]) ++ mergeL (a.drop a.length) (b.drop (k + 1)) by rw [HM.out, mergeL_b hkb, hcb, List.append_assoc]; rfl)
        rw [hcb] at y0 y1 y2 y3
        clear hcb
        go_wp2_with (at_builtin; refine wpList_append_own _ rfl _ _ 60 rfl w.heap.size tStr i0 (.string (S [])) 1 16 Tryz.underlying60 hi hz0 hz1 hz2 rfl (by decide) _ _ _ rfl (HO.out.alloc (.cells #[.string (S cb.path)] tStr)) ⟨_, 0, none⟩ 1 1 [.string (S cb.path)] rfl rfl (cell_one_new _ _ _) (by simp [Value.oneCell']) (by unfold maxLen; omega) (by omega) (by simp; have := HB.out.size; omega) ?_; intro v' w5 hown5 hgr5 _; have HB5 := Lib.hid ((HB.out.alloc HB.out.size _).grown hgr5 (by have := HB.out.size; simp; omega) (fun q hq => ((HO.out.alloc (.cells #[.string (S cb.path)] tStr)).lt q hq).1)); have HO5 := Lib.hid (strs_snoc hown5); obtain ⟨ao', c', rfl⟩ := ownsRow_form hown5; clear hown5 hgr5)
        go_roundw
        case rel => exact ⟨a.length, k + 1, S0 ++ [cb.path], by omega, by omega, by go_num, by go_num, by simp; omega, HM2, HO5, HB5⟩
        case measure => simp [intOf]; omega
      · obtain rfl : k = b.length := by omega
        have HM2 := Lib.hid (show [] :: mergeL a b = S0 by rw [HM.out, List.drop_length, List.drop_length]; simp [mergeL])
        go_wp2
        go_ret
        have hl := congrArg List.length HM2.out
        simp only [List.length_cons] at hl
        exact ⟨.slice av S0.length cv, rfl, by rw [hl, HM2.out]; exact HO.out, HB.out⟩
end Go.Proofs.YtafokdidpbainaaGreatDoor
namespace Go.Proofs.YtafokdidpbainaaGreatDoor
open Go.RowKit

theorem first_find {l : List Ent} {p : List UInt8} {r : Int} (h : First (atL l p) l.length r) : (∃ (i : Nat) (hi : i < l.length), r = i ∧ findL l p = some l[i] ∧ l[i].path = p) ∨ (r = -1 ∧ findL l p = none) := by
  rcases h with ⟨i, hi, rfl, h1, h2⟩ | ⟨rfl, h2⟩
  · have e1 : l[i].path = p := by
      unfold atL at h1; rw [List.getElem?_eq_getElem hi] at h1; simpa using h1
    refine .inl ⟨i, hi, rfl, ?_, e1⟩
    unfold findL
    rw [List.find?_eq_some_iff_getElem]
    refine ⟨by simpa using e1, i, hi, rfl, fun j hj => ?_⟩
    have := h2 j hj
    unfold atL at this; rw [List.getElem?_eq_getElem (by omega)] at this; simpa using this
  · refine .inr ⟨rfl, ?_⟩
    unfold findL
    rw [List.find?_eq_none]
    intro e he
    obtain ⟨j, hj, rfl⟩ := List.getElem_of_mem he
    have := h2 j hj
    unfold atL at this; rw [List.getElem?_eq_getElem hj] at this; simpa using this
theorem emits_take (a b : List Ent) {l : List (List UInt8)} {k : Nat} (h : k < l.length) : (l.take (k + 1)).flatMap (emitL a b) = (l.take k).flatMap (emitL a b) ++ emitL a b l[k] := by
  rw [List.take_succ_eq_append_getElem h, List.flatMap_append]; simp
set_option maxRecDepth 100000 in
set_option maxHeartbeats 4000000 in
theorem diffR_any (a b : List Ent) (A B : Option Addr) (capA capB : Nat) (w : World) (ha : Rd w A (ents a)) (hb : Rd w B (ents b)) (hla : a.length ≤ 1000000) (hlb : b.length ≤ 1000000) (hsa : ∀ e ∈ a, e.path.length ≤ 1000 ∧ e.path ≠ []) (hsb : ∀ e ∈ b, e.path.length ≤ 1000 ∧ e.path ≠ []) :
    Calls Tryz.prog 12 #[.slice A a.length capA, .slice B b.length capB] w fun e w' => ∃ v, e = .returned v ∧ OwnC w' w.heap.size v (diffL a b) ∧ Below w.heap.size w w' := by
  obtain ⟨i0, hi0, hz0, hz1, hz2⟩ := info_parts (show (Tryz.prog.info? 59).map (fun i => (i.zero, i.size, i.bytes)) = some (some entZ, 4, 48) by kernel_rfl)
  have HBoth := Lib.hid (both_any a b A B capA capB w ha hb hla hlb (fun e he => (hsa e he).1) (fun e he => (hsb e he).1))
  have HA := Lib.hid ha
  have HBb := Lib.hid hb
  have HSa := Lib.hid hsa
  have HSb := Lib.hid hsb
  have HSp : Hid (∀ p ∈ [] :: mergeL a b, p.length ≤ 1000) := Lib.hid (by
    intro p hp
    rcases List.mem_cons.1 hp with rfl | hp
    · simp
    · rcases (mergeL_mem _ _ _).1 hp with ⟨e, he, rfl⟩ | ⟨e, he, rfl⟩
      · exact (hsa e he).1
      · exact (hsb e he).1)
  have hpsl : ([] :: mergeL a b).length ≤ 2000001 := by have := merge_len a b; rw [List.length_cons]; omega
  have HDef := Lib.hid (show diffL a b = ([] :: mergeL a b).flatMap (emitL a b) from rfl)
  clear ha hb hsa hsb
  generalize ([] :: mergeL a b) = ps at *
  go_enter Tryz.func12, Tryz.ntmps12
  go_wp2_with fail
  refine HBoth.out.mono ?_
  rintro e1 w1 ⟨v, rfl, hown, hb1⟩
  obtain ⟨A1, c1, rfl, _, _, hrd⟩ := Rd.of_own hown
  have HP := Lib.hid hrd
  have HB1 := Lib.hid hb1
  clear hown hrd hb1 HBoth
  go_wp2
  go_loopw [7, 5] (fun i vo wr => ∃ k : Nat, k ≤ ps.length ∧ i = .int .i64 k ∧ Hid (OwnC wr w1.heap.size vo ((ps.take k).flatMap (emitL a b))) ∧ Hid (Below w1.heap.size w1 wr)) (fun i _ _ => ps.length - (intOf i).toNat)
  case atStart => exact ⟨0, Nat.zero_le _, rfl, Lib.hid (World.ownsRow_nil _ _ _ _), Lib.hid (Below.refl _ _)⟩
  case round =>
    obtain ⟨k, hk, rfl, HO, HB⟩ := hrel
    obtain ⟨av, cv, rfl⟩ := ownsRow_form HO.out
    have HBw := Lib.hid (HB1.out.trans (HB.out.mono HB1.out.size))
    by_cases hlt : k < ps.length
    · obtain ⟨bp, op, hAp, hbp, hcp⟩ := HP.out.at k (by rw [strs_len]; exact hlt)
      subst hAp
      have g0 := (HB.out.cell (p := ⟨bp, op + k, none⟩) hbp).trans (hcp k _ (strs_get hlt))
      have HK := Lib.hid (emits_take a b hlt)
      obtain ⟨p, hpp⟩ : ∃ p, ps[k] = p := ⟨_, rfl⟩
      have hpl := HSp.out p (hpp ▸ List.getElem_mem hlt)
      rw [hpp] at g0 HK
      have hkl : (k : Int) < (ps.length : Int) := by omega
      clear hpp hcp
      have hol : ((ps.take k).flatMap (emitL a b)).length ≤ 7000000 := by have := emits_len a b (ps.take k); rw [List.length_take] at this; omega
      generalize (ps.take k).flatMap (emitL a b) = out at *
      go_wp2_with fail
      refine (at_any a p A capA _ (HA.out.below HBw.out) (by omega) (fun e he => by have := (HSa.out e he).1; omega) (by omega)).mono ?_
      rintro e2 w2 ⟨⟨rx, rfl, hfx⟩, rfl⟩
      go_wp2_with fail
      refine (at_any b p B capB _ (HBb.out.below HBw.out) (by omega) (fun e he => by have := (HSb.out e he).1; omega) (by omega)).mono ?_
      rintro e2 w2 ⟨⟨ry, rfl, hfy⟩, rfl⟩
      have hx := first_find hfx
      have hy := first_find hfy
      clear hfx hfy
      rcases hy with ⟨j, hj, rfl, hy, hyp⟩ | ⟨rfl, hy⟩
      · obtain ⟨bb, ob, hBe, hbb, y0, y1, y2, y3⟩ := ents_at HBb.out HBw.out j hj
        subst hBe
        obtain ⟨cb, hcb⟩ : ∃ c, b[j] = c := ⟨_, rfl⟩
        rw [hcb] at y0 y1 y2 y3 hy hyp
        obtain ⟨q, kb, mb, db⟩ := cb
        obtain rfl : q = p := hyp
        have HY := Lib.hid hy
        clear hcb hy
        have hj0 : (0 : Int) ≤ (j : Int) := by omega
        have hj1 : (j : Int) < (b.length : Int) := by omega
        have hj2 : ¬ (j : Int) < 0 := by omega
        rcases hx with ⟨i, hi, rfl, hx, hxp⟩ | ⟨rfl, hx⟩
        · obtain ⟨ba, oa, hAe, hba, x0, x1, x2, x3⟩ := ents_at HA.out HBw.out i hi
          subst hAe
          obtain ⟨ca, hca⟩ : ∃ c, a[i] = c := ⟨_, rfl⟩
          rw [hca] at x0 x1 x2 x3 hx hxp
          obtain ⟨q2, ka, ma, da⟩ := ca
          obtain rfl : q2 = q := hxp
          have HX := Lib.hid hx
          clear hca hx
          have hi00 : (0 : Int) ≤ (i : Int) := by omega
          have hi1 : (i : Int) < (a.length : Int) := by omega
          have hi2 : ¬ (i : Int) < 0 := by omega
          by_cases hEq : ka = kb ∧ ma = mb ∧ da = db
          · obtain ⟨rfl, rfl, rfl⟩ := hEq
            have HE1 := Lib.hid (show emit1 a b q2 = [] by unfold emit1; rw [HX.out, HY.out]; simp)
            go_upto_region 9 with fail
            go_quiet (fail)
            generalize hD : World.drewN wr _ = wd
            have HO5 : Hid (OwnC wd _ (.slice av out.length cv) out) := Lib.hid (by rw [← hD]; exact HO.out)
            have HB5 := Lib.hid (show Below w1.heap.size w1 wd by rw [← hD]; exact below_drewN HB.out _)
            have eD : World.cell? wr = World.cell? wd := by rw [← hD]; rfl
            rw [eD] at y0 y1 y2 y3
            clear eD
            clear hD HO HB HBw g0 x0 x1 x2 x3
            have HO := HO5
            have HB := HB5
            clear HO5 HB5
            have HBw := Lib.hid (HB1.out.trans (HB.out.mono HB1.out.size))
            go_wp2_with fail
            refine (cleared_any a b q2 _ _ capA capB _ (HA.out.below HBw.out) (HBb.out.below HBw.out) hla hlb HSa.out HSb.out (by omega)).mono ?_
            rintro e6 u1w ⟨rfl, hb6⟩
            have HO6 := Lib.hid (ownsRow_below HO.out hb6)
            have HB6 := Lib.hid (HB.out.trans (hb6.mono HB.out.size))
            clear hb6 HO HB HBw
            have HO := HO6
            have HB := HB6
            clear HO6 HB6
            have HBw := Lib.hid (HB1.out.trans (HB.out.mono HB1.out.size))
            obtain ⟨cl, hcl⟩ : ∃ cl, clearedL a b q2 = cl := ⟨_, rfl⟩
            rw [hcl]
            have HC := Lib.hid hcl
            clear hcl
            cases cl with
            | true =>
              have HE2 := Lib.hid (show emit2 a b q2 = [⟨q2, 5, 0, []⟩] by unfold emit2; rw [HC.out]; rfl)
              go_wp2_with (at_builtin; refine wpList_append_own _ rfl _ _ 29 rfl w1.heap.size 59 i0 entZ 4 48 Tryz.underlying29 hi0 hz0 hz1 hz2 rfl (by decide) _ _ _ rfl (HO.out.alloc _) ⟨_, 0, none⟩ 1 1 [.string (S q2), .int .i64 5, .int .i64 0, .string (S [])] rfl rfl (cells4_at _ _ _ _ _ _ _ (by simp)) (by simp [Value.oneCell']) (by (try simp only [List.length_append, List.length_singleton]); unfold maxLen; omega) (by (try simp only [List.length_append, List.length_singleton]); omega) (by simp; have := HB.out.size; omega) ?_; intro v' v2 hown5 hgr5 _; have HB5 := Lib.hid ((HB.out.alloc HB.out.size _).grown hgr5 (by have := HB.out.size; simp; omega) (fun kq hq => ((HO.out.alloc (.cells #[.string (S q2), .int .i64 5, .int .i64 0, .string (S [])] 59)).lt kq hq).1)); have HO5 := Lib.hid (own_snocC hown5); obtain ⟨ao', c', rfl⟩ := ownsRow_form hown5; clear hown5 hgr5 HO HB HBw; have HO := HO5; have HB := HB5; clear HO5 HB5; have HBw := Lib.hid (HB1.out.trans (HB.out.mono HB1.out.size)))
              have HE3 := Lib.hid (show emit3 a b q2 = [] by unfold emit3; rw [HX.out, HY.out]; simp)
              go_wp2
              go_roundw
              case rel => exact ⟨k + 1, by omega, by go_num, Lib.hid (by rw [HK.out, emitL, HE1.out, HE2.out, HE3.out]; exact own_eqC HO.out (by simp) (by simp)), HB⟩
              case measure => simp [intOf]; omega
            | false =>
              have HE2 := Lib.hid (show emit2 a b q2 = [] by unfold emit2; rw [HC.out]; rfl)
              have HE3 := Lib.hid (show emit3 a b q2 = [] by unfold emit3; rw [HX.out, HY.out]; simp)
              go_wp2
              go_roundw
              case rel => exact ⟨k + 1, by omega, by go_num, Lib.hid (by rw [HK.out, emitL, HE1.out, HE2.out, HE3.out]; exact own_eqC HO.out (by simp) (by simp)), HB⟩
              case measure => simp [intOf]; omega
          · have hne : ∀ wz : World, (binOp .neq 49 (.agg #[.string (S q2), .int .i64 ka, .int .i64 ma, .string (S da)]) (.agg #[.string (S q2), .int .i64 kb, .int .i64 mb, .string (S db)])).run Tryz.prog wz = .ok (.bool true) wz := fun wz => by rw [neq_ent q2 ka ma kb mb da db _ rfl wz, decide_eq_true hEq]
            have HE1 := Lib.hid (show emit1 a b q2 = [⟨q2, kb, mb, db⟩] by unfold emit1; rw [HX.out, HY.out]; simp only; rw [if_neg (fun h => hEq (by simpa using h))])
            clear hEq
            go_upto_region 9 with fail
            go_quiet (fail)
            generalize hD : World.drewN wr _ = wd
            have HO5 : Hid (OwnC wd _ (.slice av out.length cv) out) := Lib.hid (by rw [← hD]; exact HO.out)
            have HB5 := Lib.hid (show Below w1.heap.size w1 wd by rw [← hD]; exact below_drewN HB.out _)
            have eD : World.cell? wr = World.cell? wd := by rw [← hD]; rfl
            rw [eD] at y0 y1 y2 y3
            clear eD
            clear hD HO HB HBw g0 x0 x1 x2 x3
            have HO := HO5
            have HB := HB5
            clear HO5 HB5
            have HBw := Lib.hid (HB1.out.trans (HB.out.mono HB1.out.size))
            go_wp2_with (at_builtin; refine wpList_append_own _ rfl _ _ 29 rfl w1.heap.size 59 i0 entZ 4 48 Tryz.underlying29 hi0 hz0 hz1 hz2 rfl (by decide) _ _ _ rfl (HO.out.alloc _) ⟨_, 0, none⟩ 1 1 [.string (S q2), .int .i64 kb, .int .i64 mb, .string (S db)] rfl rfl (cells4_at _ _ _ _ _ _ _ (by simp)) (by simp [Value.oneCell']) (by (try simp only [List.length_append, List.length_singleton]); unfold maxLen; omega) (by (try simp only [List.length_append, List.length_singleton]); omega) (by simp; have := HB.out.size; omega) ?_; intro v' v3 hown5 hgr5 _; have HB5 := Lib.hid ((HB.out.alloc HB.out.size _).grown hgr5 (by have := HB.out.size; simp; omega) (fun kq hq => ((HO.out.alloc (.cells #[.string (S q2), .int .i64 kb, .int .i64 mb, .string (S db)] 59)).lt kq hq).1)); have HO5 := Lib.hid (own_snocC hown5); obtain ⟨ao', c', rfl⟩ := ownsRow_form hown5; clear hown5 hgr5 HO HB HBw; have HO := HO5; have HB := HB5; clear HO5 HB5; have HBw := Lib.hid (HB1.out.trans (HB.out.mono HB1.out.size)))
            go_wp2_with fail
            refine (cleared_any a b q2 _ _ capA capB _ (HA.out.below HBw.out) (HBb.out.below HBw.out) hla hlb HSa.out HSb.out (by omega)).mono ?_
            rintro e6 u4w ⟨rfl, hb6⟩
            have HO6 := Lib.hid (ownsRow_below HO.out hb6)
            have HB6 := Lib.hid (HB.out.trans (hb6.mono HB.out.size))
            clear hb6 HO HB HBw
            have HO := HO6
            have HB := HB6
            clear HO6 HB6
            have HBw := Lib.hid (HB1.out.trans (HB.out.mono HB1.out.size))
            obtain ⟨cl, hcl⟩ : ∃ cl, clearedL a b q2 = cl := ⟨_, rfl⟩
            rw [hcl]
            have HC := Lib.hid hcl
            clear hcl
            cases cl with
            | true =>
              have HE2 := Lib.hid (show emit2 a b q2 = [⟨q2, 5, 0, []⟩] by unfold emit2; rw [HC.out]; rfl)
              go_wp2_with (at_builtin; refine wpList_append_own _ rfl _ _ 29 rfl w1.heap.size 59 i0 entZ 4 48 Tryz.underlying29 hi0 hz0 hz1 hz2 rfl (by decide) _ _ _ rfl (HO.out.alloc _) ⟨_, 0, none⟩ 1 1 [.string (S q2), .int .i64 5, .int .i64 0, .string (S [])] rfl rfl (cells4_at _ _ _ _ _ _ _ (by simp)) (by simp [Value.oneCell']) (by (try simp only [List.length_append, List.length_singleton]); unfold maxLen; omega) (by (try simp only [List.length_append, List.length_singleton]); omega) (by simp; have := HB.out.size; omega) ?_; intro v' v5 hown5 hgr5 _; have HB5 := Lib.hid ((HB.out.alloc HB.out.size _).grown hgr5 (by have := HB.out.size; simp; omega) (fun kq hq => ((HO.out.alloc (.cells #[.string (S q2), .int .i64 5, .int .i64 0, .string (S [])] 59)).lt kq hq).1)); have HO5 := Lib.hid (own_snocC hown5); obtain ⟨ao', c', rfl⟩ := ownsRow_form hown5; clear hown5 hgr5 HO HB HBw; have HO := HO5; have HB := HB5; clear HO5 HB5; have HBw := Lib.hid (HB1.out.trans (HB.out.mono HB1.out.size)))
              have HE3 := Lib.hid (show emit3 a b q2 = [] by unfold emit3; rw [HX.out, HY.out]; simp)
              go_wp2
              go_roundw
              case rel => exact ⟨k + 1, by omega, by go_num, Lib.hid (by rw [HK.out, emitL, HE1.out, HE2.out, HE3.out]; exact own_eqC HO.out (by simp) (by simp)), HB⟩
              case measure => simp [intOf]; omega
            | false =>
              have HE2 := Lib.hid (show emit2 a b q2 = [] by unfold emit2; rw [HC.out]; rfl)
              have HE3 := Lib.hid (show emit3 a b q2 = [] by unfold emit3; rw [HX.out, HY.out]; simp)
              go_wp2
              go_roundw
              case rel => exact ⟨k + 1, by omega, by go_num, Lib.hid (by rw [HK.out, emitL, HE1.out, HE2.out, HE3.out]; exact own_eqC HO.out (by simp) (by simp)), HB⟩
              case measure => simp [intOf]; omega
        · have HX := Lib.hid hx
          clear hx
          have HE1 := Lib.hid (show emit1 a b q = [⟨q, kb, mb, db⟩] by unfold emit1; rw [HX.out, HY.out]; rfl)
          go_upto_region 9 with fail
          go_quiet (fail)
          generalize hD : World.drewN wr _ = wd
          have HO5 : Hid (OwnC wd _ (.slice av out.length cv) out) := Lib.hid (by rw [← hD]; exact HO.out)
          have HB5 := Lib.hid (show Below w1.heap.size w1 wd by rw [← hD]; exact below_drewN HB.out _)
          have eD : World.cell? wr = World.cell? wd := by rw [← hD]; rfl
          rw [eD] at y0 y1 y2 y3
          clear eD
          clear hD HO HB HBw g0
          have HO := HO5
          have HB := HB5
          clear HO5 HB5
          have HBw := Lib.hid (HB1.out.trans (HB.out.mono HB1.out.size))
          go_wp2_with (at_builtin; refine wpList_append_own _ rfl _ _ 29 rfl w1.heap.size 59 i0 entZ 4 48 Tryz.underlying29 hi0 hz0 hz1 hz2 rfl (by decide) _ _ _ rfl (HO.out.alloc _) ⟨_, 0, none⟩ 1 1 [.string (S q), .int .i64 kb, .int .i64 mb, .string (S db)] rfl rfl (cells4_at _ _ _ _ _ _ _ (by simp)) (by simp [Value.oneCell']) (by (try simp only [List.length_append, List.length_singleton]); unfold maxLen; omega) (by (try simp only [List.length_append, List.length_singleton]); omega) (by simp; have := HB.out.size; omega) ?_; intro v' v6 hown5 hgr5 _; have HB5 := Lib.hid ((HB.out.alloc HB.out.size _).grown hgr5 (by have := HB.out.size; simp; omega) (fun kq hq => ((HO.out.alloc (.cells #[.string (S q), .int .i64 kb, .int .i64 mb, .string (S db)] 59)).lt kq hq).1)); have HO5 := Lib.hid (own_snocC hown5); obtain ⟨ao', c', rfl⟩ := ownsRow_form hown5; clear hown5 hgr5 HO HB HBw; have HO := HO5; have HB := HB5; clear HO5 HB5; have HBw := Lib.hid (HB1.out.trans (HB.out.mono HB1.out.size)))
          go_wp2_with fail
          refine (cleared_any a b q _ _ capA capB _ (HA.out.below HBw.out) (HBb.out.below HBw.out) hla hlb HSa.out HSb.out (by omega)).mono ?_
          rintro e6 u7w ⟨rfl, hb6⟩
          have HO6 := Lib.hid (ownsRow_below HO.out hb6)
          have HB6 := Lib.hid (HB.out.trans (hb6.mono HB.out.size))
          clear hb6 HO HB HBw
          have HO := HO6
          have HB := HB6
          clear HO6 HB6
          have HBw := Lib.hid (HB1.out.trans (HB.out.mono HB1.out.size))
          obtain ⟨cl, hcl⟩ : ∃ cl, clearedL a b q = cl := ⟨_, rfl⟩
          rw [hcl]
          have HC := Lib.hid hcl
          clear hcl
          cases cl with
          | true =>
            have HE2 := Lib.hid (show emit2 a b q = [⟨q, 5, 0, []⟩] by unfold emit2; rw [HC.out]; rfl)
            go_wp2_with (at_builtin; refine wpList_append_own _ rfl _ _ 29 rfl w1.heap.size 59 i0 entZ 4 48 Tryz.underlying29 hi0 hz0 hz1 hz2 rfl (by decide) _ _ _ rfl (HO.out.alloc _) ⟨_, 0, none⟩ 1 1 [.string (S q), .int .i64 5, .int .i64 0, .string (S [])] rfl rfl (cells4_at _ _ _ _ _ _ _ (by simp)) (by simp [Value.oneCell']) (by (try simp only [List.length_append, List.length_singleton]); unfold maxLen; omega) (by (try simp only [List.length_append, List.length_singleton]); omega) (by simp; have := HB.out.size; omega) ?_; intro v' v8 hown5 hgr5 _; have HB5 := Lib.hid ((HB.out.alloc HB.out.size _).grown hgr5 (by have := HB.out.size; simp; omega) (fun kq hq => ((HO.out.alloc (.cells #[.string (S q), .int .i64 5, .int .i64 0, .string (S [])] 59)).lt kq hq).1)); have HO5 := Lib.hid (own_snocC hown5); obtain ⟨ao', c', rfl⟩ := ownsRow_form hown5; clear hown5 hgr5 HO HB HBw; have HO := HO5; have HB := HB5; clear HO5 HB5; have HBw := Lib.hid (HB1.out.trans (HB.out.mono HB1.out.size)))
            have HE3 := Lib.hid (show emit3 a b q = [] by unfold emit3; rw [HX.out, HY.out]; simp)
            go_wp2
            go_roundw
            case rel => exact ⟨k + 1, by omega, by go_num, Lib.hid (by rw [HK.out, emitL, HE1.out, HE2.out, HE3.out]; exact own_eqC HO.out (by simp) (by simp)), HB⟩
            case measure => simp [intOf]; omega
          | false =>
            have HE2 := Lib.hid (show emit2 a b q = [] by unfold emit2; rw [HC.out]; rfl)
            have HE3 := Lib.hid (show emit3 a b q = [] by unfold emit3; rw [HX.out, HY.out]; simp)
            go_wp2
            go_roundw
            case rel => exact ⟨k + 1, by omega, by go_num, Lib.hid (by rw [HK.out, emitL, HE1.out, HE2.out, HE3.out]; exact own_eqC HO.out (by simp) (by simp)), HB⟩
            case measure => simp [intOf]; omega
      · have HY := Lib.hid hy
        clear hy
        have HE1 := Lib.hid (show emit1 a b p = [] by unfold emit1; rw [HY.out])
        rcases hx with ⟨i, hi, rfl, hx, hxp⟩ | ⟨rfl, hx⟩
        · have HX := Lib.hid hx
          have hp0 : p ≠ [] := by rw [← hxp]; exact (HSa.out _ (List.getElem_mem hi)).2
          have HU0 := Lib.hid (List.length_pos_iff.2 (partsB_ne hp0))
          have HUl := Lib.hid (upB_len p)
          have hi00 : (0 : Int) ≤ (i : Int) := by omega
          have hi2 : ¬ (i : Int) < 0 := by omega
          clear hx hxp hp0
          go_upto_region 9 with fail
          go_quiet (fail)
          generalize hD : World.drewN wr _ = wd
          have HO5 : Hid (OwnC wd _ (.slice av out.length cv) out) := Lib.hid (by rw [← hD]; exact HO.out)
          have HB5 := Lib.hid (show Below w1.heap.size w1 wd by rw [← hD]; exact below_drewN HB.out _)
          clear hD HO HB HBw g0
          have HO := HO5
          have HB := HB5
          clear HO5 HB5
          have HBw := Lib.hid (HB1.out.trans (HB.out.mono HB1.out.size))
          go_wp2_with fail
          refine (cleared_any a b p _ _ capA capB _ (HA.out.below HBw.out) (HBb.out.below HBw.out) hla hlb HSa.out HSb.out (by omega)).mono ?_
          rintro e6 u9w ⟨rfl, hb6⟩
          have HO6 := Lib.hid (ownsRow_below HO.out hb6)
          have HB6 := Lib.hid (HB.out.trans (hb6.mono HB.out.size))
          clear hb6 HO HB HBw
          have HO := HO6
          have HB := HB6
          clear HO6 HB6
          have HBw := Lib.hid (HB1.out.trans (HB.out.mono HB1.out.size))
          obtain ⟨cl, hcl⟩ : ∃ cl, clearedL a b p = cl := ⟨_, rfl⟩
          rw [hcl]
          have HC := Lib.hid hcl
          clear hcl
          cases cl with
          | true =>
            have HE2 := Lib.hid (show emit2 a b p = [⟨p, 5, 0, []⟩] by unfold emit2; rw [HC.out]; rfl)
            go_wp2_with (at_builtin; refine wpList_append_own _ rfl _ _ 29 rfl w1.heap.size 59 i0 entZ 4 48 Tryz.underlying29 hi0 hz0 hz1 hz2 rfl (by decide) _ _ _ rfl (HO.out.alloc _) ⟨_, 0, none⟩ 1 1 [.string (S p), .int .i64 5, .int .i64 0, .string (S [])] rfl rfl (cells4_at _ _ _ _ _ _ _ (by simp)) (by simp [Value.oneCell']) (by (try simp only [List.length_append, List.length_singleton]); unfold maxLen; omega) (by (try simp only [List.length_append, List.length_singleton]); omega) (by simp; have := HB.out.size; omega) ?_; intro v' v10 hown5 hgr5 _; have HB5 := Lib.hid ((HB.out.alloc HB.out.size _).grown hgr5 (by have := HB.out.size; simp; omega) (fun kq hq => ((HO.out.alloc (.cells #[.string (S p), .int .i64 5, .int .i64 0, .string (S [])] 59)).lt kq hq).1)); have HO5 := Lib.hid (own_snocC hown5); obtain ⟨ao', c', rfl⟩ := ownsRow_form hown5; clear hown5 hgr5 HO HB HBw; have HO := HO5; have HB := HB5; clear HO5 HB5; have HBw := Lib.hid (HB1.out.trans (HB.out.mono HB1.out.size)))
            go_wp2_with fail
            refine (upR_any p _ (by omega) HU0.out).mono ?_
            rintro e6 u11w ⟨rfl, hb6⟩
            have HO6 := Lib.hid (ownsRow_below HO.out hb6)
            have HB6 := Lib.hid (HB.out.trans (hb6.mono HB.out.size))
            clear hb6 HO HB HBw
            have HO := HO6
            have HB := HB6
            clear HO6 HB6
            have HBw := Lib.hid (HB1.out.trans (HB.out.mono HB1.out.size))
            obtain ⟨d, hd⟩ : ∃ d, (upB p).1 = d := ⟨_, rfl⟩
            obtain ⟨d2, hd2⟩ : ∃ d, (upB p).2 = d := ⟨_, rfl⟩
            have hdl : d.length ≤ 1001 := by rw [← hd]; have := HUl.out.1; omega
            rw [hd, hd2]
            have HD := Lib.hid hd
            clear hd hd2
            go_wp2_with fail
            refine (cleared_any a b d _ _ capA capB _ (HA.out.below HBw.out) (HBb.out.below HBw.out) hla hlb HSa.out HSb.out (by omega)).mono ?_
            rintro e6 u12w ⟨rfl, hb6⟩
            have HO6 := Lib.hid (ownsRow_below HO.out hb6)
            have HB6 := Lib.hid (HB.out.trans (hb6.mono HB.out.size))
            clear hb6 HO HB HBw
            have HO := HO6
            have HB := HB6
            clear HO6 HB6
            have HBw := Lib.hid (HB1.out.trans (HB.out.mono HB1.out.size))
            obtain ⟨c2, hc2⟩ : ∃ c2, clearedL a b d = c2 := ⟨_, rfl⟩
            obtain ⟨z, hz⟩ : ∃ z, kindL b d = z := ⟨_, rfl⟩
            have HKd := Lib.hid (kindR_any b d _ capB _ (HBb.out.below HBw.out) (by omega) (fun e he => by have := (HSb.out e he).1; omega) (by omega))
            rw [hc2]
            rw [hz] at HKd
            have HE3 := Lib.hid (show emit3 a b p = if z = 1 ∧ c2 = false then [⟨p, 4, 0, []⟩] else [] by unfold emit3; rw [HX.out, HY.out, HD.out, hc2, hz]; simp)
            clear hc2 hz
            by_cases z1 : z = 1
            · have fz : (z == 1) = true := by rw [z1]; rfl
              cases c2 with
              | true =>
                rw [if_neg (fun h => by cases h.2)] at HE3
                clear z1
                go_wp2_with fail
                refine HKd.out.mono ?_
                rintro e7 w7 ⟨rfl, rfl⟩
                go_wp2
                go_roundw
                case rel => exact ⟨k + 1, by omega, by go_num, Lib.hid (by rw [HK.out, emitL, HE1.out, HE2.out, HE3.out]; exact own_eqC HO.out (by simp) (by simp)), HB⟩
                case measure => simp [intOf]; omega
              | false =>
                rw [if_pos ⟨z1, rfl⟩] at HE3
                clear z1
                go_wp2_with fail
                refine HKd.out.mono ?_
                rintro e7 w7 ⟨rfl, rfl⟩
                go_wp2_with (at_builtin; refine wpList_append_own _ rfl _ _ 29 rfl w1.heap.size 59 i0 entZ 4 48 Tryz.underlying29 hi0 hz0 hz1 hz2 rfl (by decide) _ _ _ rfl (HO.out.alloc _) ⟨_, 0, none⟩ 1 1 [.string (S p), .int .i64 4, .int .i64 0, .string (S [])] rfl rfl (cells4_at _ _ _ _ _ _ _ (by simp)) (by simp [Value.oneCell']) (by (try simp only [List.length_append, List.length_singleton]); unfold maxLen; omega) (by (try simp only [List.length_append, List.length_singleton]); omega) (by simp; have := HB.out.size; omega) ?_; intro v' v13 hown5 hgr5 _; have HB5 := Lib.hid ((HB.out.alloc HB.out.size _).grown hgr5 (by have := HB.out.size; simp; omega) (fun kq hq => ((HO.out.alloc (.cells #[.string (S p), .int .i64 4, .int .i64 0, .string (S [])] 59)).lt kq hq).1)); have HO5 := Lib.hid (own_snocC hown5); obtain ⟨ao', c', rfl⟩ := ownsRow_form hown5; clear hown5 hgr5 HO HB HBw; have HO := HO5; have HB := HB5; clear HO5 HB5; have HBw := Lib.hid (HB1.out.trans (HB.out.mono HB1.out.size)))
                go_wp2
                go_roundw
                case rel => exact ⟨k + 1, by omega, by go_num, Lib.hid (by rw [HK.out, emitL, HE1.out, HE2.out, HE3.out]; exact own_eqC HO.out (by simp) (by simp)), HB⟩
                case measure => simp [intOf]; omega
            · have fz : (z == 1) = false := by rw [beq_eq_false_iff_ne]; exact z1
              rw [if_neg (fun h => z1 h.1)] at HE3
              clear z1
              go_wp2_with fail
              refine HKd.out.mono ?_
              rintro e7 w7 ⟨rfl, rfl⟩
              go_wp2
              go_roundw
              case rel => exact ⟨k + 1, by omega, by go_num, Lib.hid (by rw [HK.out, emitL, HE1.out, HE2.out, HE3.out]; exact own_eqC HO.out (by simp) (by simp)), HB⟩
              case measure => simp [intOf]; omega
          | false =>
            have HE2 := Lib.hid (show emit2 a b p = [] by unfold emit2; rw [HC.out]; rfl)
            go_wp2_with fail
            refine (upR_any p _ (by omega) HU0.out).mono ?_
            rintro e6 u14w ⟨rfl, hb6⟩
            have HO6 := Lib.hid (ownsRow_below HO.out hb6)
            have HB6 := Lib.hid (HB.out.trans (hb6.mono HB.out.size))
            clear hb6 HO HB HBw
            have HO := HO6
            have HB := HB6
            clear HO6 HB6
            have HBw := Lib.hid (HB1.out.trans (HB.out.mono HB1.out.size))
            obtain ⟨d, hd⟩ : ∃ d, (upB p).1 = d := ⟨_, rfl⟩
            obtain ⟨d2, hd2⟩ : ∃ d, (upB p).2 = d := ⟨_, rfl⟩
            have hdl : d.length ≤ 1001 := by rw [← hd]; have := HUl.out.1; omega
            rw [hd, hd2]
            have HD := Lib.hid hd
            clear hd hd2
            go_wp2_with fail
            refine (cleared_any a b d _ _ capA capB _ (HA.out.below HBw.out) (HBb.out.below HBw.out) hla hlb HSa.out HSb.out (by omega)).mono ?_
            rintro e6 u15w ⟨rfl, hb6⟩
            have HO6 := Lib.hid (ownsRow_below HO.out hb6)
            have HB6 := Lib.hid (HB.out.trans (hb6.mono HB.out.size))
            clear hb6 HO HB HBw
            have HO := HO6
            have HB := HB6
            clear HO6 HB6
            have HBw := Lib.hid (HB1.out.trans (HB.out.mono HB1.out.size))
            obtain ⟨c2, hc2⟩ : ∃ c2, clearedL a b d = c2 := ⟨_, rfl⟩
            obtain ⟨z, hz⟩ : ∃ z, kindL b d = z := ⟨_, rfl⟩
            have HKd := Lib.hid (kindR_any b d _ capB _ (HBb.out.below HBw.out) (by omega) (fun e he => by have := (HSb.out e he).1; omega) (by omega))
            rw [hc2]
            rw [hz] at HKd
            have HE3 := Lib.hid (show emit3 a b p = if z = 1 ∧ c2 = false then [⟨p, 4, 0, []⟩] else [] by unfold emit3; rw [HX.out, HY.out, HD.out, hc2, hz]; simp)
            clear hc2 hz
            by_cases z1 : z = 1
            · have fz : (z == 1) = true := by rw [z1]; rfl
              cases c2 with
              | true =>
                rw [if_neg (fun h => by cases h.2)] at HE3
                clear z1
                go_wp2_with fail
                refine HKd.out.mono ?_
                rintro e7 w7 ⟨rfl, rfl⟩
                go_wp2
                go_roundw
                case rel => exact ⟨k + 1, by omega, by go_num, Lib.hid (by rw [HK.out, emitL, HE1.out, HE2.out, HE3.out]; exact own_eqC HO.out (by simp) (by simp)), HB⟩
                case measure => simp [intOf]; omega
              | false =>
                rw [if_pos ⟨z1, rfl⟩] at HE3
                clear z1
                go_wp2_with fail
                refine HKd.out.mono ?_
                rintro e7 w7 ⟨rfl, rfl⟩
                go_wp2_with (at_builtin; refine wpList_append_own _ rfl _ _ 29 rfl w1.heap.size 59 i0 entZ 4 48 Tryz.underlying29 hi0 hz0 hz1 hz2 rfl (by decide) _ _ _ rfl (HO.out.alloc _) ⟨_, 0, none⟩ 1 1 [.string (S p), .int .i64 4, .int .i64 0, .string (S [])] rfl rfl (cells4_at _ _ _ _ _ _ _ (by simp)) (by simp [Value.oneCell']) (by (try simp only [List.length_append, List.length_singleton]); unfold maxLen; omega) (by (try simp only [List.length_append, List.length_singleton]); omega) (by simp; have := HB.out.size; omega) ?_; intro v' v16 hown5 hgr5 _; have HB5 := Lib.hid ((HB.out.alloc HB.out.size _).grown hgr5 (by have := HB.out.size; simp; omega) (fun kq hq => ((HO.out.alloc (.cells #[.string (S p), .int .i64 4, .int .i64 0, .string (S [])] 59)).lt kq hq).1)); have HO5 := Lib.hid (own_snocC hown5); obtain ⟨ao', c', rfl⟩ := ownsRow_form hown5; clear hown5 hgr5 HO HB HBw; have HO := HO5; have HB := HB5; clear HO5 HB5; have HBw := Lib.hid (HB1.out.trans (HB.out.mono HB1.out.size)))
                go_wp2
                go_roundw
                case rel => exact ⟨k + 1, by omega, by go_num, Lib.hid (by rw [HK.out, emitL, HE1.out, HE2.out, HE3.out]; exact own_eqC HO.out (by simp) (by simp)), HB⟩
                case measure => simp [intOf]; omega
            · have fz : (z == 1) = false := by rw [beq_eq_false_iff_ne]; exact z1
              rw [if_neg (fun h => z1 h.1)] at HE3
              clear z1
              go_wp2_with fail
              refine HKd.out.mono ?_
              rintro e7 w7 ⟨rfl, rfl⟩
              go_wp2
              go_roundw
              case rel => exact ⟨k + 1, by omega, by go_num, Lib.hid (by rw [HK.out, emitL, HE1.out, HE2.out, HE3.out]; exact own_eqC HO.out (by simp) (by simp)), HB⟩
              case measure => simp [intOf]; omega
        · have HX := Lib.hid hx
          clear hx
          go_upto_region 9 with fail
          go_quiet (fail)
          generalize hD : World.drewN wr _ = wd
          have HO5 : Hid (OwnC wd _ (.slice av out.length cv) out) := Lib.hid (by rw [← hD]; exact HO.out)
          have HB5 := Lib.hid (show Below w1.heap.size w1 wd by rw [← hD]; exact below_drewN HB.out _)
          clear hD HO HB HBw g0
          have HO := HO5
          have HB := HB5
          clear HO5 HB5
          have HBw := Lib.hid (HB1.out.trans (HB.out.mono HB1.out.size))
          go_wp2_with fail
          refine (cleared_any a b p _ _ capA capB _ (HA.out.below HBw.out) (HBb.out.below HBw.out) hla hlb HSa.out HSb.out (by omega)).mono ?_
          rintro e6 u17w ⟨rfl, hb6⟩
          have HO6 := Lib.hid (ownsRow_below HO.out hb6)
          have HB6 := Lib.hid (HB.out.trans (hb6.mono HB.out.size))
          clear hb6 HO HB HBw
          have HO := HO6
          have HB := HB6
          clear HO6 HB6
          have HBw := Lib.hid (HB1.out.trans (HB.out.mono HB1.out.size))
          obtain ⟨cl, hcl⟩ : ∃ cl, clearedL a b p = cl := ⟨_, rfl⟩
          rw [hcl]
          have HC := Lib.hid hcl
          clear hcl
          cases cl with
          | true =>
            have HE2 := Lib.hid (show emit2 a b p = [⟨p, 5, 0, []⟩] by unfold emit2; rw [HC.out]; rfl)
            go_wp2_with (at_builtin; refine wpList_append_own _ rfl _ _ 29 rfl w1.heap.size 59 i0 entZ 4 48 Tryz.underlying29 hi0 hz0 hz1 hz2 rfl (by decide) _ _ _ rfl (HO.out.alloc _) ⟨_, 0, none⟩ 1 1 [.string (S p), .int .i64 5, .int .i64 0, .string (S [])] rfl rfl (cells4_at _ _ _ _ _ _ _ (by simp)) (by simp [Value.oneCell']) (by (try simp only [List.length_append, List.length_singleton]); unfold maxLen; omega) (by (try simp only [List.length_append, List.length_singleton]); omega) (by simp; have := HB.out.size; omega) ?_; intro v' v18 hown5 hgr5 _; have HB5 := Lib.hid ((HB.out.alloc HB.out.size _).grown hgr5 (by have := HB.out.size; simp; omega) (fun kq hq => ((HO.out.alloc (.cells #[.string (S p), .int .i64 5, .int .i64 0, .string (S [])] 59)).lt kq hq).1)); have HO5 := Lib.hid (own_snocC hown5); obtain ⟨ao', c', rfl⟩ := ownsRow_form hown5; clear hown5 hgr5 HO HB HBw; have HO := HO5; have HB := HB5; clear HO5 HB5; have HBw := Lib.hid (HB1.out.trans (HB.out.mono HB1.out.size)))
            have HE3 := Lib.hid (show emit3 a b p = [] by unfold emit3; rw [HX.out, HY.out]; simp)
            go_wp2
            go_roundw
            case rel => exact ⟨k + 1, by omega, by go_num, Lib.hid (by rw [HK.out, emitL, HE1.out, HE2.out, HE3.out]; exact own_eqC HO.out (by simp) (by simp)), HB⟩
            case measure => simp [intOf]; omega
          | false =>
            have HE2 := Lib.hid (show emit2 a b p = [] by unfold emit2; rw [HC.out]; rfl)
            have HE3 := Lib.hid (show emit3 a b p = [] by unfold emit3; rw [HX.out, HY.out]; simp)
            go_wp2
            go_roundw
            case rel => exact ⟨k + 1, by omega, by go_num, Lib.hid (by rw [HK.out, emitL, HE1.out, HE2.out, HE3.out]; exact own_eqC HO.out (by simp) (by simp)), HB⟩
            case measure => simp [intOf]; omega
    · obtain rfl : k = ps.length := by omega
      rw [List.take_length] at HO ⊢
      go_wp2
      go_ret
      exact ⟨_, rfl, by rw [HDef.out]; exact ownsRow_base HO.out HB1.out.size, HBw.out⟩
end Go.Proofs.YtafokdidpbainaaGreatDoor
