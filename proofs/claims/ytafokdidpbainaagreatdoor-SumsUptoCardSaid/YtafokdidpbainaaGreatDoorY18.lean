/-
  The document's answer: what is in a directory; is it cleared?
-/
import Derived.Test.YtafokdidpbainaaGreatDoorY13
import Derived.Test.YtafokdidpbainaaGreatDoorY16
import Derived.Test.YtafokdidpbainaaGreatDoorY17
set_option linter.unusedVariables false
set_option linter.unusedSimpArgs false
namespace Go.Proofs.YtafokdidpbainaaGreatDoor
open Go.RowKit

theorem childrenL_take {l : List Ent} {d : List UInt8} {k : Nat} {c : Ent} (h : l[k]? = some c) : childrenL (l.take (k + 1)) d = childrenL (l.take k) d ++ (if (upB c.path).1 = d then [c] else []) := by
  obtain ⟨hk, rfl⟩ := List.getElem?_eq_some_iff.1 h
  rw [List.take_succ_eq_append_getElem hk, childrenL, List.filter_append, childrenL]
  congr 1
  simp only [List.filter_cons, List.filter_nil, decide_eq_true_eq]
set_option maxHeartbeats 4000000 in
theorem children_any (l : List Ent) (d : List UInt8) (A : Option Addr) (cap : Nat) (w : World) (hr : Rd w A (ents l)) (hl : l.length ≤ 1000000) (hs : ∀ e ∈ l, e.path.length ≤ 1000 ∧ e.path ≠ []) (hd : d.length ≤ 1000000) :
    Calls Tryz.prog 41 #[.slice A l.length cap, .string (S d)] w fun e w' => ∃ v, e = .returned v ∧ OwnE w' w.heap.size v (childrenL l d) ∧ Below w.heap.size w w' := by
  obtain ⟨i0, hi0, hz0, hz1, hz2⟩ := info_parts (show (Tryz.prog.info? 49).map (fun i => (i.zero, i.size, i.bytes)) = some (some entZ, 4, 48) by kernel_rfl)
  go_enter Tryz.func41, Tryz.ntmps41
  go_wp2
  replace hr := Lib.hid hr
  replace hs := Lib.hid hs
  go_loopw [6, 5] (fun i vo wr => ∃ k : Nat, k ≤ l.length ∧ i = .int .i64 k ∧ Hid (OwnE wr w.heap.size vo (childrenL (l.take k) d)) ∧ Hid (Below w.heap.size w wr)) (fun i _ _ => l.length - (intOf i).toNat)
  case atStart => exact ⟨0, Nat.zero_le _, rfl, Lib.hid (World.ownsRow_nil _ _ _ _), Lib.hid (Below.refl _ _)⟩
  case round =>
    obtain ⟨k, hk, rfl, HO, HB⟩ := hrel
    obtain ⟨av, cv, rfl⟩ := ownsRow_form HO.out
    by_cases hlt : k < l.length
    · obtain ⟨b, o, rfl, hbb, g0, g1, g2, g3⟩ := ents_at hr.out HB.out k hlt
      obtain ⟨c, hcc⟩ : ∃ c, l[k] = c := ⟨_, rfl⟩
      obtain ⟨hsp, hsn⟩ := hs.out c (hcc ▸ List.getElem_mem hlt)
      have HK := Lib.hid (show l[k]? = some c by rw [List.getElem?_eq_getElem hlt, hcc])
      have HU0 := Lib.hid (List.length_pos_iff.2 (partsB_ne hsn))
      have FX := Lib.hid (fun (wx : World) (hb : Below w.heap.size w wx) => by
        have h := ents_at hr.out hb k hlt
        rw [hcc] at h
        obtain ⟨b', o', hAA, _, y0, y1, y2, y3⟩ := h
        obtain ⟨rfl, rfl⟩ : b' = b ∧ o' = o := by cases hAA; exact ⟨rfl, rfl⟩
        exact (⟨y0, y1, y2, y3⟩ : wx.cell? ⟨b', o' + k * 4, none⟩ = some (.string (S c.path)) ∧ wx.cell? ⟨b', o' + k * 4 + 1, none⟩ = some (.int .i64 c.kind) ∧ wx.cell? ⟨b', o' + k * 4 + 2, none⟩ = some (.int .i64 c.mode) ∧ wx.cell? ⟨b', o' + k * 4 + 3, none⟩ = some (.string (S c.data))))
      rw [hcc] at g0 g1 g2 g3
      have hkl : (k : Int) < (l.length : Int) := by omega
      clear hcc hsn
      have hob : (childrenL (l.take k) d).length ≤ 1000000 := by
        have := List.length_filter_le (fun c : Ent => decide ((upB c.path).1 = d)) (l.take k)
        rw [List.length_take] at this; unfold childrenL; omega
      have HW := Lib.hid (childrenL_take (d := d) HK.out)
      generalize childrenL (l.take k) d = out at *
      go_wp2_with fail
      refine (upR_any c.path _ (by omega) HU0.out).mono ?_
      rintro e1 w1 ⟨rfl, hb1⟩
      have HB1 := Lib.hid (HB.out.trans (hb1.mono HB.out.size))
      have HO1 := Lib.hid (ownsRow_below HO.out hb1)
      clear g0 g1 g2 g3 hb1 HO HB
      obtain ⟨g0, g1, g2, g3⟩ := FX.out _ HB1.out
      obtain ⟨u1, hu1⟩ : ∃ u, (upB c.path).1 = u := ⟨_, rfl⟩
      obtain ⟨u2, hu2⟩ : ∃ u, (upB c.path).2 = u := ⟨_, rfl⟩
      rw [hu1, hu2]
      rw [hu1] at HW
      clear hu1 hu2
      by_cases h : u1 = d
      · have f1 : (u1 == d) = true := by rw [beq_iff_eq]; exact h
        have HE := Lib.hid (show childrenL (l.take (k + 1)) d = out ++ [⟨c.path, c.kind, c.mode, c.data⟩] by rw [HW.out, if_pos h])
        clear h HW
        go_wp2_with (at_builtin; refine wpList_append_own _ rfl _ _ 22 rfl w.heap.size 49 i0 entZ 4 48 Tryz.underlying22 hi0 hz0 hz1 hz2 rfl (by decide) _ _ _ rfl (HO1.out.alloc _) ⟨_, 0, none⟩ 1 1 [.string (S c.path), .int .i64 c.kind, .int .i64 c.mode, .string (S c.data)] rfl rfl (cells4_at _ _ _ _ _ _ _ (by simp)) (by simp [Value.oneCell']) (by unfold maxLen; omega) (by omega) (by simp; have := HB1.out.size; omega) ?_; intro v' w5 hown5 hgr5 _; have HB5 := Lib.hid ((HB1.out.alloc HB1.out.size _).grown hgr5 (by have := HB1.out.size; simp; omega) (fun q hq => ((HO1.out.alloc (.cells #[.string (S c.path), .int .i64 c.kind, .int .i64 c.mode, .string (S c.data)] 49)).lt q hq).1)); have HO5 := Lib.hid (own_snoc hown5); obtain ⟨ao', c', rfl⟩ := ownsRow_form hown5; clear hown5 hgr5)
        go_roundw
        case rel => exact ⟨k + 1, by omega, by go_num, by rw [HE.out]; exact HO5, HB5⟩
        case measure => simp [intOf]; omega
      · have f1 : (u1 == d) = false := by rw [beq_eq_false_iff_ne]; exact h
        have HE := Lib.hid (show childrenL (l.take (k + 1)) d = out by rw [HW.out, if_neg h, List.append_nil])
        clear h HW
        go_wp2
        go_roundw
        case rel => exact ⟨k + 1, by omega, by go_num, by rw [HE.out]; exact HO1, HB1⟩
        case measure => simp [intOf]; omega
    · obtain rfl : k = l.length := by omega
      rw [List.take_length] at HO ⊢
      go_wp2
      go_ret
      exact ⟨_, rfl, HO.out, HB.out⟩
theorem cleared_no {a b : List Ent} {d : List UInt8} (h : kindL a d ≠ 1 ∨ kindL b d ≠ 1) : clearedL a b d = false := by
  unfold clearedL
  rcases h with h | h <;> simp [h]
theorem cleared_yes {a b : List Ent} {d : List UInt8} (h : kindL a d = 1) (h2 : kindL b d = 1) : clearedL a b d = ((childrenL a d).all (fun c => decide (kindL b c.path = 0)) && decide (1 < (childrenL a d).length)) := by
  unfold clearedL
  simp [h, h2]
set_option maxHeartbeats 4000000 in
theorem cleared_any (a b : List Ent) (d : List UInt8) (A B : Option Addr) (capA capB : Nat) (w : World) (ha : Rd w A (ents a)) (hb : Rd w B (ents b)) (hla : a.length ≤ 1000000) (hlb : b.length ≤ 1000000) (hsa : ∀ e ∈ a, e.path.length ≤ 1000 ∧ e.path ≠ []) (hsb : ∀ e ∈ b, e.path.length ≤ 1000 ∧ e.path ≠ []) (hd : d.length ≤ 1000000) :
    Calls Tryz.prog 28 #[.slice A a.length capA, .slice B b.length capB, .string (S d)] w fun e w' => e = .returned (.bool (clearedL a b d)) ∧ Below w.heap.size w w' := by
  have HKa := Lib.hid (kindR_any a d A capA w ha (by omega) (fun e he => by have := (hsa e he).1; omega) (by omega))
  have HKb := Lib.hid (kindR_any b d B capB w hb (by omega) (fun e he => by have := (hsb e he).1; omega) (by omega))
  have HCh := Lib.hid (children_any a d A capA w ha hla hsa hd)
  have HBr := Lib.hid hb
  have HSb := Lib.hid hsb
  have HSa := Lib.hid hsa
  clear ha hb hsa hsb
  obtain ⟨x, hx⟩ : ∃ x, kindL a d = x := ⟨_, rfl⟩
  obtain ⟨y, hy⟩ : ∃ y, kindL b d = y := ⟨_, rfl⟩
  have HX := Lib.hid hx
  have HY := Lib.hid hy
  rw [hx] at HKa
  rw [hy] at HKb
  clear hx hy
  go_enter Tryz.func28, Tryz.ntmps28
  by_cases x1 : x = 1
  · by_cases y1 : y = 1
    · have fx : (x != 1) = false := by rw [x1]; rfl
      have fy : (y != 1) = false := by rw [y1]; rfl
      have HE := Lib.hid (cleared_yes (HX.out.trans x1) (HY.out.trans y1))
      clear x1 y1 HX HY
      go_wp2_with fail
      refine HKa.out.mono ?_
      rintro e1 w1 ⟨rfl, rfl⟩
      go_wp2_with fail
      refine HKb.out.mono ?_
      rintro e1 w1 ⟨rfl, rfl⟩
      go_wp2_with fail
      refine HCh.out.mono ?_
      rintro e1 w1 ⟨v, rfl, hown, hb1⟩
      have HB1 := Lib.hid hb1
      have HRb := Lib.hid (HBr.out.below hb1)
      obtain ⟨av, cv, rfl⟩ := ownsRow_form hown
      obtain ⟨A1, c1, hv, _, _, hrd⟩ := Rd.of_own hown
      cases hv
      have HRd := Lib.hid hrd
      have hcl : (childrenL a d).length ≤ 1000000 := by
        have := List.length_filter_le (fun c : Ent => decide ((upB c.path).1 = d)) a
        unfold childrenL; omega
      have HSc := Lib.hid (fun e (he : e ∈ childrenL a d) => HSa.out e (List.mem_filter.1 he).1)
      clear hown hb1 hrd HKa HKb HCh
      generalize childrenL a d = ch at *
      go_wp2
      go_loopw [8] (fun i wr => ∃ k : Nat, k ≤ ch.length ∧ i = .int .i64 k ∧ Hid (∀ j (hj : j < ch.length), j < k → kindL b ch[j].path = 0) ∧ w1 = wr) (fun i _ => ch.length - (intOf i).toNat)
      case atStart => exact ⟨0, Nat.zero_le _, rfl, Lib.hid (fun j _ hj => by omega), rfl⟩
      case round =>
        obtain ⟨k, hk, rfl, HA, rfl⟩ := hrel
        by_cases hlt : k < ch.length
        · obtain ⟨b1, o1, rfl, hbb, g0, g1, g2, g3⟩ := ents_at HRd.out (Below.refl _ _) k hlt
          obtain ⟨c, hcc⟩ : ∃ c, ch[k] = c := ⟨_, rfl⟩
          obtain ⟨hsp, hsn⟩ := HSc.out c (hcc ▸ List.getElem_mem hlt)
          have HKc := Lib.hid (kindR_any b c.path B capB w1 HRb.out (by omega) (fun e he => by have := (HSb.out e he).1; omega) (by omega))
          have hkl : (k : Int) < (ch.length : Int) := by omega
          have HCc := Lib.hid hcc
          rw [hcc] at g0 g1 g2 g3
          obtain ⟨z, hz⟩ : ∃ z, kindL b c.path = z := ⟨_, rfl⟩
          rw [hz] at HKc
          have HZ := Lib.hid hz
          clear hcc hsn hz
          by_cases z0 : z = 0
          · have fz : (z != 0) = false := by rw [z0]; rfl
            have HA2 := Lib.hid (fun j (hj : j < ch.length) (hjk : j < k + 1) => show kindL b ch[j].path = 0 by
              by_cases e : j = k
              · subst e; rw [HCc.out, HZ.out, z0]
              · exact HA.out j hj (by omega))
            clear z0
            go_wp2_with fail
            refine HKc.out.mono ?_
            rintro e2 w2 ⟨rfl, rfl⟩
            go_wp2
            go_roundw
            case rel => exact ⟨k + 1, by omega, by go_num, HA2, trivial⟩
            case measure => simp [intOf]; omega
          · have fz : (z != 0) = true := by rw [bne_iff_ne]; exact z0
            have HF := Lib.hid (show ch.all (fun c => decide (kindL b c.path = 0)) = false by
              rw [List.all_eq_false]
              exact ⟨c, HCc.out ▸ List.getElem_mem hlt, by rw [HZ.out]; simpa using z0⟩)
            clear z0
            go_wp2_with fail
            refine HKc.out.mono ?_
            rintro e2 w2 ⟨rfl, rfl⟩
            go_wp2
            go_ret
            exact ⟨by rw [HE.out, HF.out]; rfl, HB1.out⟩
        · obtain rfl : k = ch.length := by omega
          have HT := Lib.hid (show ch.all (fun c => decide (kindL b c.path = 0)) = true by
            rw [List.all_eq_true]
            intro c hc
            obtain ⟨j, hj, rfl⟩ := List.getElem_of_mem hc
            rw [decide_eq_true_eq]; exact HA.out j hj hj)
          by_cases h1 : 1 < ch.length
          · have f1 : (1 : Int) < (ch.length : Int) := by omega
            have HE2 := Lib.hid (HE.out.trans (by rw [HT.out, decide_eq_true h1]; rfl : _ = true))
            clear h1
            go_wp2
            go_ret
            exact ⟨by rw [HE2.out]; rfl, HB1.out⟩
          · have f1 : ¬ (1 : Int) < (ch.length : Int) := by omega
            have HE2 := Lib.hid (HE.out.trans (by rw [HT.out, decide_eq_false h1]; rfl : _ = false))
            clear h1
            go_wp2
            go_ret
            exact ⟨by rw [HE2.out]; rfl, HB1.out⟩
    · have fx : (x != 1) = false := by rw [x1]; rfl
      have fy : (y != 1) = true := by rw [bne_iff_ne]; exact y1
      have HE := Lib.hid (cleared_no (.inr (by rw [HY.out]; exact y1) : kindL a d ≠ 1 ∨ kindL b d ≠ 1))
      clear x1 y1 HX HY HCh
      go_wp2_with fail
      refine HKa.out.mono ?_
      rintro e1 w1 ⟨rfl, rfl⟩
      go_wp2_with fail
      refine HKb.out.mono ?_
      rintro e1 w1 ⟨rfl, rfl⟩
      go_wp2
      go_ret
      exact ⟨by rw [HE.out]; rfl, Below.refl _ _⟩
  · have fx : (x != 1) = true := by rw [bne_iff_ne]; exact x1
    have HE := Lib.hid (cleared_no (.inl (by rw [HX.out]; exact x1) : kindL a d ≠ 1 ∨ kindL b d ≠ 1))
    clear x1 HX HY HCh HKb
    go_wp2_with fail
    refine HKa.out.mono ?_
    rintro e1 w1 ⟨rfl, rfl⟩
    go_wp2
    go_ret
    exact ⟨by rw [HE.out]; rfl, Below.refl _ _⟩
end Go.Proofs.YtafokdidpbainaaGreatDoor
