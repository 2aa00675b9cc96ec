/-
  The document's answer: the first change that may not stand where it stands.
-/
import Derived.Deep.DeepCutAuto
import Derived.StillTailTactics
import Derived.Deep.RegionWith
import Derived.BigRegion
import Derived.Test.YtjampkdbieoboaaGreatDoorY03
import Derived.Test.YtjampkdbieoboaaGreatDoorY11
set_option linter.unusedVariables false
set_option linter.unusedSimpArgs false
namespace Go.Proofs.YtjampkdbieoboaaGreatDoor
open Go.RowKit

set_option maxRecDepth 100000 in
set_option maxHeartbeats 16000000 in
theorem barred_any (l : List Ent) (A : Option Addr) (cap : Nat) (w : World) (hr : Rd w A (ents l)) (hl : l.length ≤ 2000000000) (hs : ∀ e ∈ l, e.path.length ≤ 2000000000 ∧ e.data.length ≤ 2000000000) :
    Calls Tryz.prog 7 #[.slice A l.length cap] w fun e w' => ∃ r, e = .returned (.int .i64 r) ∧ First (barR l) l.length r ∧ Below w.heap.size w w' := by
  go_enter Tryz.func7, Tryz.ntmps7
  go_wp2
  go_loopw [3] (fun i wr => ∃ k : Nat, k ≤ l.length ∧ i = .int .i64 k ∧ Hid (∀ j, j < k → barR l j = false) ∧ Below w.heap.size w wr) (fun i _ => l.length - (intOf i).toNat)
  case atStart => exact ⟨0, Nat.zero_le _, rfl, fun j hj => by omega, Below.refl _ _⟩
  case round =>
    obtain ⟨k, hk, rfl, hpre, hbel⟩ := hrel
    by_cases hlt : k < l.length
    · obtain ⟨b, o, rfl, hbb, g0, g1, g2, g3⟩ := ents_at hr hbel k hlt
      obtain ⟨c, hcc⟩ : ∃ c, l[k] = c := ⟨_, rfl⟩
      obtain ⟨hsp, hsd⟩ := hs c (hcc ▸ List.getElem_mem hlt)
      have HK := Lib.hid (show l[k]? = some c by rw [List.getElem?_eq_getElem hlt, hcc])
      rw [hcc] at g0 g1 g2 g3
      have Q0 := Lib.hid (Cell4.new wr c 29)
      have hb0 : Below w.heap.size w (wr.alloc (.cells #[.string (S c.path), .int .i64 c.kind, .int .i64 c.mode, .string (S c.data)] 29)) := hbel.alloc hbel.size _
      have HB0 := Lib.hid hb0
      clear hcc hb0
      go_upto_region 7 with (first
        | (go_at_call 12; refine (isPath_any c.path _ (by omega)).mono ?_; rintro e1 w1 ⟨rfl, hb1⟩; have Q1 := Lib.hid (Q0.out.below hb1); obtain ⟨q0, q1, q2, q3⟩ := Q1.out; have HB1 := Lib.hid (HB0.out.trans (hb1.mono HB0.out.size)); clear hb1 Q0 HB0)
        | (go_at_call 13; refine (goodR_any c _ (by omega)).mono ?_; rintro e2 w2 ⟨rfl, hb2⟩; clear q0 q1 q2 q3; have Q2 := Lib.hid (Q1.out.below hb2); obtain ⟨q0, q1, q2, q3⟩ := Q2.out; have HB2 := Lib.hid (HB1.out.trans (hb2.mono HB1.out.size)); clear hb2 Q1 HB1))
      obtain ⟨M, hM⟩ : ∃ M, markB c = M := ⟨_, rfl⟩
      have HM := Lib.hid hM
      clear hM
      go_cut [7] (fun v wx => v = .bool M ∧ w2 = wx)
      case first =>
        by_cases k4 : c.kind = 4
        · have f4 : (c.kind == 4) = true := by simpa using k4
          by_cases m0 : c.mode = 0
          · have fm : (c.mode == 0) = true := by simpa using m0
            have X : c.data.isEmpty = M := by rw [← HM.out, markB, decide_eq_true k4, decide_eq_true m0]; rfl
            clear k4 m0
            go_wp2
            go_meet
            exact ⟨rfl, rfl⟩
          · have fm : (c.mode == 0) = false := by simpa using m0
            obtain rfl : false = M := by rw [← HM.out, markB, decide_eq_true k4, decide_eq_false m0]; rfl
            clear k4 m0
            go_wp2
            go_meet
            exact ⟨rfl, rfl⟩
        · have f4 : (c.kind == 4) = false := by simpa using k4
          by_cases k5 : c.kind = 5
          · have f5 : (c.kind == 5) = true := by simpa using k5
            by_cases m0 : c.mode = 0
            · have fm : (c.mode == 0) = true := by simpa using m0
              have X : c.data.isEmpty = M := by rw [← HM.out, markB, decide_eq_false k4, decide_eq_true k5, decide_eq_true m0]; rfl
              clear k4 k5 m0
              go_wp2
              go_meet
              exact ⟨rfl, rfl⟩
            · have fm : (c.mode == 0) = false := by simpa using m0
              obtain rfl : false = M := by rw [← HM.out, markB, decide_eq_false k4, decide_eq_true k5, decide_eq_false m0]; rfl
              clear k4 k5 m0
              go_wp2
              go_meet
              exact ⟨rfl, rfl⟩
          · have f5 : (c.kind == 5) = false := by simpa using k5
            obtain rfl : false = M := by rw [← HM.out, markB, decide_eq_false k4, decide_eq_false k5]; rfl
            clear k4 k5
            go_wp2
            go_meet
            exact ⟨rfl, rfl⟩
      case rest =>
        obtain ⟨rfl, rfl⟩ := hcut
        go_upto_region 8 with fail
        obtain ⟨P, hP⟩ : ∃ P, pathB c.path = P := ⟨_, rfl⟩
        obtain ⟨G, hG⟩ : ∃ G, goodB c = G := ⟨_, rfl⟩
        rw [hP, hG]
        obtain ⟨Sh, hSh⟩ : ∃ Sh, (!shapeR k c) = Sh := ⟨_, rfl⟩
        have hS2 : Sh = (decide (k = 80) || !P || (!G && !M) || (c.path.isEmpty && !decide (c.kind = 5))) := by rw [← hSh, shapeR, hP, hG, HM.out, Bool.not_not]
        have HSh := Lib.hid hSh
        have HS2 := Lib.hid hS2
        clear hP hG hSh hS2
        go_cut [68] (fun v wx => v = .bool Sh ∧ w2 = wx)
        case first =>
          by_cases i80 : k = 80
          · have f80 : ((k : Int) == 80) = true := by rw [beq_iff_eq]; omega
            obtain rfl : Sh = true := by rw [HS2.out, decide_eq_true i80]; rfl
            clear i80 HS2
            go_wp2
            go_meet
            exact ⟨rfl, rfl⟩
          have f80 : ((k : Int) == 80) = false := by rw [beq_eq_false_iff_ne]; omega
          cases P
          · obtain rfl : Sh = true := by rw [HS2.out, decide_eq_false i80]; rfl
            clear i80 HS2
            go_wp2
            go_meet
            exact ⟨rfl, rfl⟩
          cases G
          · cases M
            · obtain rfl : Sh = true := by rw [HS2.out, decide_eq_false i80]; rfl
              clear i80 HS2
              go_wp2
              go_meet
              exact ⟨rfl, rfl⟩
            · by_cases p0 : c.path = []
              · have fp : c.path.isEmpty = true := by simp [p0]
                have X : (c.kind != 5) = Sh := by
                  rw [HS2.out, decide_eq_false i80, fp, bne]
                  by_cases k5 : c.kind = 5
                  · rw [decide_eq_true k5, beq_iff_eq.2 k5]; rfl
                  · rw [decide_eq_false k5, beq_eq_false_iff_ne.2 k5]; rfl
                have HF := Lib.hid fp
                clear i80 HS2 p0 fp
                have fp := HF.out
                clear HF
                go_wp2
                go_meet
                exact ⟨rfl, rfl⟩
              · have fp : c.path.isEmpty = false := by rw [List.isEmpty_eq_false_iff]; exact p0
                obtain rfl : Sh = false := by rw [HS2.out, decide_eq_false i80, fp]; rfl
                clear i80 HS2 p0
                go_wp2
                go_meet
                exact ⟨rfl, rfl⟩
          · by_cases p0 : c.path = []
            · have fp : c.path.isEmpty = true := by simp [p0]
              have X : (c.kind != 5) = Sh := by
                rw [HS2.out, decide_eq_false i80, fp, bne]
                by_cases k5 : c.kind = 5
                · rw [decide_eq_true k5, beq_iff_eq.2 k5]; rfl
                · rw [decide_eq_false k5, beq_eq_false_iff_ne.2 k5]; rfl
              have HF := Lib.hid fp
              clear i80 HS2 p0 fp
              have fp := HF.out
              clear HF
              go_wp2
              go_meet
              exact ⟨rfl, rfl⟩
            · have fp : c.path.isEmpty = false := by rw [List.isEmpty_eq_false_iff]; exact p0
              obtain rfl : Sh = false := by rw [HS2.out, decide_eq_false i80, fp]; rfl
              clear i80 HS2 p0
              go_wp2
              go_meet
              exact ⟨rfl, rfl⟩
        case rest =>
          obtain ⟨rfl, rfl⟩ := hcut
          cases hSv : Sh
          case true =>
            have HB := Lib.hid (show barR l k = true by
              rw [barR, HK.out]; show (!shapeR k c || _ || _) = true
              rw [HSh.out, hSv]; rfl)
            subst hSv
            clear HSh HS2
            go_wp2
            go_ret
            exact ⟨k, rfl, .inl ⟨k, hlt, rfl, HB.out, hpre.out⟩, HB2.out⟩
          case false =>
            subst hSv
            have HS3 := Lib.hid (show shapeR k c = true by have := HSh.out; simpa using this)
            clear HSh HS2
            have FX := Lib.hid (fun (q : Nat) (hq : q < l.length) (wx : World) (hb : Below w.heap.size w wx) => ents_at hr hb q hq)
            have hways : k = 0 ∨ ∃ m x, k = m + 1 ∧ l[m]? = some x ∧ (nextR x c = true ∨ nextR x c = false) := by
              cases k with
              | zero => exact .inl rfl
              | succ m => exact .inr ⟨m, l[m]'(by omega), rfl, List.getElem?_eq_getElem (by omega), by cases nextR (l[m]'(by omega)) c <;> simp⟩
            clear hr
            rcases hways with hk0 | ⟨m, x, hkm, hxx, hnx⟩
            · have HNx := Lib.hid (show k = 0 ∨ ∃ x, l[k - 1]? = some x ∧ nextR x c = true from .inl hk0)
              have hk1 : ¬ ((0 : Int) < (k : Int)) := by omega
              have HB3 := HB2
              have Q3 := Q2
              clear hk0
              go_wp2
              all_goals first
                | (exfalso; omega)
                | skip
              clear HB2 Q2
              obtain ⟨gx, hgx⟩ : ∃ g, g = wr.heap.size := ⟨_, rfl⟩
              rw [← hgx] at Q3 ⊢
              clear hgx
              go_loopw [10] (fun y wx => ∃ q : Nat, q ≤ k ∧ y = .int .i64 q ∧ Hid (∀ (j : Nat) (x : Ent), j < q → l[j]? = some x → belowB c.path x.path = false ∨ x.kind = 1 ∨ x.kind = 5) ∧ Hid (Below w.heap.size w wx) ∧ Hid (Cell4 wx gx c)) (fun y _ => k - (intOf y).toNat)
              case atStart => exact ⟨0, by omega, by go_num, (fun j x h => by omega), HB3, Q3⟩
              case round =>
                clear HB3 Q3 q0 q1 q2 q3
                obtain ⟨q, hq, rfl, HS, HB3, Q3⟩ := hrel
                obtain ⟨q0, q1, q2, q3⟩ := Q3.out
                by_cases hlq : q < k
                · exfalso; omega
                · have HOk := Lib.hid (barR_ok HK.out HS3.out HNx.out (shutR_none (fun j x hj => by
                    have h := List.getElem?_eq_some_iff.1 hj
                    obtain ⟨h1, _⟩ := h
                    rw [List.length_take] at h1
                    rw [List.getElem?_take, if_pos (by omega)] at hj
                    exact HS.out j x (by omega) hj)))
                  have HPr := Lib.hid (show ∀ j, j < k + 1 → barR l j = false by
                    intro j hj
                    rcases Nat.lt_or_ge j k with h | h
                    · exact hpre.out j h
                    · obtain rfl : j = k := by omega
                      exact HOk.out)
                  clear HS
                  go_wp2
                  go_roundw
                  case rel => exact ⟨k + 1, by omega, by go_num, HPr, HB3.out⟩
                  case measure => simp [intOf]; omega
            · have hml : m < l.length := by omega
              have hxe : l[m] = x := by rw [List.getElem?_eq_getElem hml] at hxx; exact Option.some.inj hxx
              have FY := Lib.hid (show ∀ wx, Below w.heap.size w wx → wx.cell? ⟨b, o + m * 4, none⟩ = some (.string (S x.path)) ∧ wx.cell? ⟨b, o + m * 4 + 1, none⟩ = some (.int .i64 x.kind) by
                intro wx hb
                obtain ⟨b', o', hAA, _, y0, y1, y2, y3⟩ := FX.out m hml wx hb
                obtain ⟨rfl, rfl⟩ : b' = b ∧ o' = o := by cases hAA; exact ⟨rfl, rfl⟩
                rw [hxe] at y0 y1
                exact ⟨y0, y1⟩)
              obtain ⟨hxp, _⟩ := hs x (hxe ▸ List.getElem_mem hml)
              have hk1 : (0 : Int) < (k : Int) := by omega
              have hm2 : (m : Int) < (l.length : Int) := by omega
              have hm3 : (0 : Int) ≤ (m : Int) := by omega
              have hwr : IntKind.i64.wrap ((k : Int) - 1) = (m : Int) := by rw [IntKind.wrap_i64]; omega
              have HKM := Lib.hid hkm
              have HX := Lib.hid (show l[k - 1]? = some x by rw [hkm]; exact hxx)
              obtain ⟨z, hz⟩ : ∃ z, orderL (partsB x.path) (partsB c.path) = z := ⟨_, rfl⟩
              have HZ := Lib.hid hz
              have HNX := Lib.hid (show nextR x c = !(decide (0 ≤ z) && !(decide (z = 0) && decide (x.kind = 1) && decide (c.kind = 5))) by unfold nextR; rw [hz])
              clear hkm hxx hxe hz hnx
              have hz5 : z < 0 ∨ (z = 0 ∧ x.kind = 1 ∧ c.kind = 5) ∨ (z = 0 ∧ x.kind = 1 ∧ c.kind ≠ 5) ∨ (z = 0 ∧ x.kind ≠ 1) ∨ 0 < z := by
                rcases Int.lt_trichotomy z 0 with h | h | h
                · exact .inl h
                · by_cases h1 : x.kind = 1
                  · by_cases h5 : c.kind = 5
                    · exact .inr (.inl ⟨h, h1, h5⟩)
                    · exact .inr (.inr (.inl ⟨h, h1, h5⟩))
                  · exact .inr (.inr (.inr (.inl ⟨h, h1⟩)))
                · exact .inr (.inr (.inr (.inr h)))
              obtain ⟨y0, y1⟩ := FY.out _ HB2.out
              have fin : nextR x c = false → barR l k = true := fun h => barR_next HK.out (by omega) HX.out h
              have FIN := Lib.hid fin
              clear fin
              rcases hz5 with hz | ⟨hz, h1, h5⟩ | ⟨hz, h1, h5⟩ | ⟨hz, h1⟩ | hz
              · have HNx := Lib.hid (show k = 0 ∨ ∃ x, l[k - 1]? = some x ∧ nextR x c = true from .inr ⟨x, HX.out, by rw [HNX.out, decide_eq_false (by omega)]; rfl⟩)
                have e0 : (z == 0) = false := by rw [beq_eq_false_iff_ne]; omega
                have e1 : ¬ (0 ≤ z) := by omega
                clear hz HNX
                go_upto_region 11 with fail
                go_still_tail 8, (by kernel_rfl)
                go_wp2_with (go_at_call 14; refine (orderR_any x.path c.path _ (by omega) (by omega)).mono ?_; rintro e3 w3 ⟨rfl, hb3⟩; rw [HZ.out]; have hb3' := (Below.refl w2.heap.size w2).drew.trans hb3; have HB3 := Lib.hid (HB2.out.trans (hb3'.mono HB2.out.size)); have Q3 := Lib.hid (Q2.out.below hb3'); clear y0 y1 q0 q1 q2 q3; obtain ⟨y0, y1⟩ := FY.out _ HB3.out; obtain ⟨q0, q1, q2, q3⟩ := Q3.out; clear hb3 hb3')
                clear HB2 Q2
                obtain ⟨gx, hgx⟩ : ∃ g, g = wr.heap.size := ⟨_, rfl⟩
                rw [← hgx] at Q3 ⊢
                clear hgx
                go_loopw [10] (fun y wx => ∃ q : Nat, q ≤ k ∧ y = .int .i64 q ∧ Hid (∀ (j : Nat) (x : Ent), j < q → l[j]? = some x → belowB c.path x.path = false ∨ x.kind = 1 ∨ x.kind = 5) ∧ Hid (Below w.heap.size w wx) ∧ Hid (Cell4 wx gx c)) (fun y _ => k - (intOf y).toNat)
                case atStart => exact ⟨0, by omega, by go_num, (fun j x h => by omega), HB3, Q3⟩
                case round =>
                  clear HB3 Q3 q0 q1 q2 q3
                  obtain ⟨q, hq, rfl, HS, HB3, Q3⟩ := hrel
                  obtain ⟨q0, q1, q2, q3⟩ := Q3.out
                  by_cases hlq : q < k
                  · obtain ⟨b', o', hAA, _, a0, a1, a2, a3⟩ := FX.out q (by omega) _ HB3.out
                    obtain ⟨rfl, rfl⟩ : b' = b ∧ o' = o := by cases hAA; exact ⟨rfl, rfl⟩
                    clear hAA
                    obtain ⟨x2, hx2⟩ : ∃ x2, l[q]'(by omega) = x2 := ⟨_, rfl⟩
                    have HX2 := Lib.hid (show l[q]? = some x2 by rw [List.getElem?_eq_getElem (by omega), hx2])
                    obtain ⟨hp2, _⟩ := hs x2 (hx2 ▸ List.getElem_mem _)
                    rw [hx2] at a0 a1 a2 a3
                    have hql : (q : Int) < (l.length : Int) := by omega
                    have hq0 : (0 : Int) ≤ (q : Int) := by omega
                    have HPre : Hid ((l.take k)[q]? = some x2) := Lib.hid (by rw [List.getElem?_take, if_pos hlq]; exact HX2.out)
                    clear hx2
                    have hw : belowB c.path x2.path = false ∨ (belowB c.path x2.path = true ∧ x2.kind = 1) ∨ (belowB c.path x2.path = true ∧ x2.kind ≠ 1 ∧ x2.kind = 5) ∨ (belowB c.path x2.path = true ∧ x2.kind ≠ 1 ∧ x2.kind ≠ 5) := by
                      cases belowB c.path x2.path
                      · exact .inl rfl
                      · by_cases h1 : x2.kind = 1
                        · exact .inr (.inl ⟨rfl, h1⟩)
                        · by_cases h5 : x2.kind = 5
                          · exact .inr (.inr (.inl ⟨rfl, h1, h5⟩))
                          · exact .inr (.inr (.inr ⟨rfl, h1, h5⟩))
                    have HS2 : Hid (belowB c.path x2.path = false ∨ x2.kind = 1 ∨ x2.kind = 5 → ∀ (j : Nat) (x : Ent), j < q + 1 → l[j]? = some x → belowB c.path x.path = false ∨ x.kind = 1 ∨ x.kind = 5) := Lib.hid (fun h j x hj hx => by
                      rcases Nat.lt_or_ge j q with h' | h'
                      · exact HS.out j x h' hx
                      · obtain rfl : j = q := by omega
                        rw [HX2.out] at hx; cases hx; exact h)
                    have HBl := Lib.hid (fun w => below_q c.path x2.path w (by omega))
                    rcases hw with h | ⟨h, h1⟩ | ⟨h, h1, h5⟩ | ⟨h, h1, h5⟩
                    · have HS3 := Lib.hid (HS2.out (.inl h))
                      rw [h] at HBl
                      clear h HS2 HS
                      go_upto_region 18 with fail
                      go_quiet (exact Calls.quiet_of_same (HBl.out _))
                      have HB4 := Lib.hid (fun nq => below_drewN HB3.out nq)
                      have Q4 := Lib.hid (fun nq => Q3.out.below (below_drewN (Below.refl wr.heap.size wr) nq))
                      generalize hD : World.drewN wr _ = wd
                      replace HB4 := Lib.hid (hD ▸ HB4.out _)
                      replace Q4 := Lib.hid (hD ▸ Q4.out _)
                      have eD : World.cell? wr = World.cell? wd := by rw [← hD]; rfl
                      rw [eD] at a0 a1 a2 a3 q0 q1 q2 q3
                      clear hD eD HB3 Q3
                      go_wp2
                      go_roundw
                      case rel => exact ⟨q + 1, by omega, by go_num, HS3, HB4, Q4⟩
                      case measure => simp [intOf]; omega
                    · have HS3 := Lib.hid (HS2.out (.inr (.inl h1)))
                      rw [h] at HBl
                      have k1 : (x2.kind != 1) = false := by rw [h1]; rfl
                      clear h h1 HS2 HS
                      go_upto_region 18 with fail
                      go_quiet (exact Calls.quiet_of_same (HBl.out _))
                      have HB4 := Lib.hid (fun nq => below_drewN HB3.out nq)
                      have Q4 := Lib.hid (fun nq => Q3.out.below (below_drewN (Below.refl wr.heap.size wr) nq))
                      generalize hD : World.drewN wr _ = wd
                      replace HB4 := Lib.hid (hD ▸ HB4.out _)
                      replace Q4 := Lib.hid (hD ▸ Q4.out _)
                      have eD : World.cell? wr = World.cell? wd := by rw [← hD]; rfl
                      rw [eD] at a0 a1 a2 a3 q0 q1 q2 q3
                      clear hD eD HB3 Q3
                      go_wp2
                      go_roundw
                      case rel => exact ⟨q + 1, by omega, by go_num, HS3, HB4, Q4⟩
                      case measure => simp [intOf]; omega
                    · have HS3 := Lib.hid (HS2.out (.inr (.inr h5)))
                      rw [h] at HBl
                      have k1 : (x2.kind != 1) = true := by rw [bne_iff_ne]; exact h1
                      have k2 : (x2.kind != 5) = false := by rw [h5]; rfl
                      clear h h1 h5 HS2 HS
                      go_upto_region 18 with fail
                      go_quiet (exact Calls.quiet_of_same (HBl.out _))
                      have HB4 := Lib.hid (fun nq => below_drewN HB3.out nq)
                      have Q4 := Lib.hid (fun nq => Q3.out.below (below_drewN (Below.refl wr.heap.size wr) nq))
                      generalize hD : World.drewN wr _ = wd
                      replace HB4 := Lib.hid (hD ▸ HB4.out _)
                      replace Q4 := Lib.hid (hD ▸ Q4.out _)
                      have eD : World.cell? wr = World.cell? wd := by rw [← hD]; rfl
                      rw [eD] at a0 a1 a2 a3 q0 q1 q2 q3
                      clear hD eD HB3 Q3
                      go_wp2
                      go_roundw
                      case rel => exact ⟨q + 1, by omega, by go_num, HS3, HB4, Q4⟩
                      case measure => simp [intOf]; omega
                    · have HBd := Lib.hid (barR_shut HK.out (shutR_at HPre.out h h1 h5))
                      rw [h] at HBl
                      have k1 : (x2.kind != 1) = true := by rw [bne_iff_ne]; exact h1
                      have k2 : (x2.kind != 5) = true := by rw [bne_iff_ne]; exact h5
                      clear h h1 h5 HS2 HS
                      go_upto_region 18 with fail
                      go_quiet (exact Calls.quiet_of_same (HBl.out _))
                      have HB4 := Lib.hid (fun nq => below_drewN HB3.out nq)
                      have Q4 := Lib.hid (fun nq => Q3.out.below (below_drewN (Below.refl wr.heap.size wr) nq))
                      generalize hD : World.drewN wr _ = wd
                      replace HB4 := Lib.hid (hD ▸ HB4.out _)
                      replace Q4 := Lib.hid (hD ▸ Q4.out _)
                      have eD : World.cell? wr = World.cell? wd := by rw [← hD]; rfl
                      rw [eD] at a0 a1 a2 a3 q0 q1 q2 q3
                      clear hD eD HB3 Q3
                      go_wp2
                      go_ret
                      exact ⟨k, rfl, .inl ⟨k, hlt, rfl, HBd.out, hpre.out⟩, HB4.out⟩
                  · have HOk := Lib.hid (barR_ok HK.out HS3.out HNx.out (shutR_none (fun j x hj => by
                      have h := List.getElem?_eq_some_iff.1 hj
                      obtain ⟨h1, _⟩ := h
                      rw [List.length_take] at h1
                      rw [List.getElem?_take, if_pos (by omega)] at hj
                      exact HS.out j x (by omega) hj)))
                    have HPr := Lib.hid (show ∀ j, j < k + 1 → barR l j = false by
                      intro j hj
                      rcases Nat.lt_or_ge j k with h | h
                      · exact hpre.out j h
                      · obtain rfl : j = k := by omega
                        exact HOk.out)
                    clear HS
                    go_wp2
                    go_roundw
                    case rel => exact ⟨k + 1, by omega, by go_num, HPr, HB3.out⟩
                    case measure => simp [intOf]; omega
              · have HNx := Lib.hid (show k = 0 ∨ ∃ x, l[k - 1]? = some x ∧ nextR x c = true from .inr ⟨x, HX.out, by rw [HNX.out, hz, h1, h5]; rfl⟩)
                have e0 : (z == 0) = true := by rw [beq_iff_eq]; exact hz
                have e1 : 0 ≤ z := by omega
                have e2 : (x.kind == 1) = true := by rw [beq_iff_eq]; exact h1
                have e3 : (c.kind == 5) = true := by rw [beq_iff_eq]; exact h5
                clear h1 h5
                clear hz HNX
                go_upto_region 11 with fail
                go_still_tail 8, (by kernel_rfl)
                go_wp2_with (go_at_call 14; refine (orderR_any x.path c.path _ (by omega) (by omega)).mono ?_; rintro e3 w3 ⟨rfl, hb3⟩; rw [HZ.out]; have hb3' := (Below.refl w2.heap.size w2).drew.trans hb3; have HB3 := Lib.hid (HB2.out.trans (hb3'.mono HB2.out.size)); have Q3 := Lib.hid (Q2.out.below hb3'); clear y0 y1 q0 q1 q2 q3; obtain ⟨y0, y1⟩ := FY.out _ HB3.out; obtain ⟨q0, q1, q2, q3⟩ := Q3.out; clear hb3 hb3')
                clear HB2 Q2
                obtain ⟨gx, hgx⟩ : ∃ g, g = wr.heap.size := ⟨_, rfl⟩
                rw [← hgx] at Q3 ⊢
                clear hgx
                go_loopw [10] (fun y wx => ∃ q : Nat, q ≤ k ∧ y = .int .i64 q ∧ Hid (∀ (j : Nat) (x : Ent), j < q → l[j]? = some x → belowB c.path x.path = false ∨ x.kind = 1 ∨ x.kind = 5) ∧ Hid (Below w.heap.size w wx) ∧ Hid (Cell4 wx gx c)) (fun y _ => k - (intOf y).toNat)
                case atStart => exact ⟨0, by omega, by go_num, (fun j x h => by omega), HB3, Q3⟩
                case round =>
                  clear HB3 Q3 q0 q1 q2 q3
                  obtain ⟨q, hq, rfl, HS, HB3, Q3⟩ := hrel
                  obtain ⟨q0, q1, q2, q3⟩ := Q3.out
                  by_cases hlq : q < k
                  · obtain ⟨b', o', hAA, _, a0, a1, a2, a3⟩ := FX.out q (by omega) _ HB3.out
                    obtain ⟨rfl, rfl⟩ : b' = b ∧ o' = o := by cases hAA; exact ⟨rfl, rfl⟩
                    clear hAA
                    obtain ⟨x2, hx2⟩ : ∃ x2, l[q]'(by omega) = x2 := ⟨_, rfl⟩
                    have HX2 := Lib.hid (show l[q]? = some x2 by rw [List.getElem?_eq_getElem (by omega), hx2])
                    obtain ⟨hp2, _⟩ := hs x2 (hx2 ▸ List.getElem_mem _)
                    rw [hx2] at a0 a1 a2 a3
                    have hql : (q : Int) < (l.length : Int) := by omega
                    have hq0 : (0 : Int) ≤ (q : Int) := by omega
                    have HPre : Hid ((l.take k)[q]? = some x2) := Lib.hid (by rw [List.getElem?_take, if_pos hlq]; exact HX2.out)
                    clear hx2
                    have hw : belowB c.path x2.path = false ∨ (belowB c.path x2.path = true ∧ x2.kind = 1) ∨ (belowB c.path x2.path = true ∧ x2.kind ≠ 1 ∧ x2.kind = 5) ∨ (belowB c.path x2.path = true ∧ x2.kind ≠ 1 ∧ x2.kind ≠ 5) := by
                      cases belowB c.path x2.path
                      · exact .inl rfl
                      · by_cases h1 : x2.kind = 1
                        · exact .inr (.inl ⟨rfl, h1⟩)
                        · by_cases h5 : x2.kind = 5
                          · exact .inr (.inr (.inl ⟨rfl, h1, h5⟩))
                          · exact .inr (.inr (.inr ⟨rfl, h1, h5⟩))
                    have HS2 : Hid (belowB c.path x2.path = false ∨ x2.kind = 1 ∨ x2.kind = 5 → ∀ (j : Nat) (x : Ent), j < q + 1 → l[j]? = some x → belowB c.path x.path = false ∨ x.kind = 1 ∨ x.kind = 5) := Lib.hid (fun h j x hj hx => by
                      rcases Nat.lt_or_ge j q with h' | h'
                      · exact HS.out j x h' hx
                      · obtain rfl : j = q := by omega
                        rw [HX2.out] at hx; cases hx; exact h)
                    have HBl := Lib.hid (fun w => below_q c.path x2.path w (by omega))
                    rcases hw with h | ⟨h, h1⟩ | ⟨h, h1, h5⟩ | ⟨h, h1, h5⟩
                    · have HS3 := Lib.hid (HS2.out (.inl h))
                      rw [h] at HBl
                      clear h HS2 HS
                      go_upto_region 18 with fail
                      go_quiet (exact Calls.quiet_of_same (HBl.out _))
                      have HB4 := Lib.hid (fun nq => below_drewN HB3.out nq)
                      have Q4 := Lib.hid (fun nq => Q3.out.below (below_drewN (Below.refl wr.heap.size wr) nq))
                      generalize hD : World.drewN wr _ = wd
                      replace HB4 := Lib.hid (hD ▸ HB4.out _)
                      replace Q4 := Lib.hid (hD ▸ Q4.out _)
                      have eD : World.cell? wr = World.cell? wd := by rw [← hD]; rfl
                      rw [eD] at a0 a1 a2 a3 q0 q1 q2 q3
                      clear hD eD HB3 Q3
                      go_wp2
                      go_roundw
                      case rel => exact ⟨q + 1, by omega, by go_num, HS3, HB4, Q4⟩
                      case measure => simp [intOf]; omega
                    · have HS3 := Lib.hid (HS2.out (.inr (.inl h1)))
                      rw [h] at HBl
                      have k1 : (x2.kind != 1) = false := by rw [h1]; rfl
                      clear h h1 HS2 HS
                      go_upto_region 18 with fail
                      go_quiet (exact Calls.quiet_of_same (HBl.out _))
                      have HB4 := Lib.hid (fun nq => below_drewN HB3.out nq)
                      have Q4 := Lib.hid (fun nq => Q3.out.below (below_drewN (Below.refl wr.heap.size wr) nq))
                      generalize hD : World.drewN wr _ = wd
                      replace HB4 := Lib.hid (hD ▸ HB4.out _)
                      replace Q4 := Lib.hid (hD ▸ Q4.out _)
                      have eD : World.cell? wr = World.cell? wd := by rw [← hD]; rfl
                      rw [eD] at a0 a1 a2 a3 q0 q1 q2 q3
                      clear hD eD HB3 Q3
                      go_wp2
                      go_roundw
                      case rel => exact ⟨q + 1, by omega, by go_num, HS3, HB4, Q4⟩
                      case measure => simp [intOf]; omega
                    · have HS3 := Lib.hid (HS2.out (.inr (.inr h5)))
                      rw [h] at HBl
                      have k1 : (x2.kind != 1) = true := by rw [bne_iff_ne]; exact h1
                      have k2 : (x2.kind != 5) = false := by rw [h5]; rfl
                      clear h h1 h5 HS2 HS
                      go_upto_region 18 with fail
                      go_quiet (exact Calls.quiet_of_same (HBl.out _))
                      have HB4 := Lib.hid (fun nq => below_drewN HB3.out nq)
                      have Q4 := Lib.hid (fun nq => Q3.out.below (below_drewN (Below.refl wr.heap.size wr) nq))
                      generalize hD : World.drewN wr _ = wd
                      replace HB4 := Lib.hid (hD ▸ HB4.out _)
                      replace Q4 := Lib.hid (hD ▸ Q4.out _)
                      have eD : World.cell? wr = World.cell? wd := by rw [← hD]; rfl
                      rw [eD] at a0 a1 a2 a3 q0 q1 q2 q3
                      clear hD eD HB3 Q3
                      go_wp2
                      go_roundw
                      case rel => exact ⟨q + 1, by omega, by go_num, HS3, HB4, Q4⟩
                      case measure => simp [intOf]; omega
                    · have HBd := Lib.hid (barR_shut HK.out (shutR_at HPre.out h h1 h5))
                      rw [h] at HBl
                      have k1 : (x2.kind != 1) = true := by rw [bne_iff_ne]; exact h1
                      have k2 : (x2.kind != 5) = true := by rw [bne_iff_ne]; exact h5
                      clear h h1 h5 HS2 HS
                      go_upto_region 18 with fail
                      go_quiet (exact Calls.quiet_of_same (HBl.out _))
                      have HB4 := Lib.hid (fun nq => below_drewN HB3.out nq)
                      have Q4 := Lib.hid (fun nq => Q3.out.below (below_drewN (Below.refl wr.heap.size wr) nq))
                      generalize hD : World.drewN wr _ = wd
                      replace HB4 := Lib.hid (hD ▸ HB4.out _)
                      replace Q4 := Lib.hid (hD ▸ Q4.out _)
                      have eD : World.cell? wr = World.cell? wd := by rw [← hD]; rfl
                      rw [eD] at a0 a1 a2 a3 q0 q1 q2 q3
                      clear hD eD HB3 Q3
                      go_wp2
                      go_ret
                      exact ⟨k, rfl, .inl ⟨k, hlt, rfl, HBd.out, hpre.out⟩, HB4.out⟩
                  · have HOk := Lib.hid (barR_ok HK.out HS3.out HNx.out (shutR_none (fun j x hj => by
                      have h := List.getElem?_eq_some_iff.1 hj
                      obtain ⟨h1, _⟩ := h
                      rw [List.length_take] at h1
                      rw [List.getElem?_take, if_pos (by omega)] at hj
                      exact HS.out j x (by omega) hj)))
                    have HPr := Lib.hid (show ∀ j, j < k + 1 → barR l j = false by
                      intro j hj
                      rcases Nat.lt_or_ge j k with h | h
                      · exact hpre.out j h
                      · obtain rfl : j = k := by omega
                        exact HOk.out)
                    clear HS
                    go_wp2
                    go_roundw
                    case rel => exact ⟨k + 1, by omega, by go_num, HPr, HB3.out⟩
                    case measure => simp [intOf]; omega
              · have HN := Lib.hid (show nextR x c = false by rw [HNX.out, hz, h1, decide_eq_false h5]; rfl)
                have e0 : (z == 0) = true := by rw [beq_iff_eq]; exact hz
                have e1 : 0 ≤ z := by omega
                have e2 : (x.kind == 1) = true := by rw [beq_iff_eq]; exact h1
                have e3 : (c.kind == 5) = false := by rw [beq_eq_false_iff_ne]; exact h5
                clear h1 h5
                clear hz HNX
                go_upto_region 11 with fail
                go_still_tail 8, (by kernel_rfl)
                go_wp2_with (go_at_call 14; refine (orderR_any x.path c.path _ (by omega) (by omega)).mono ?_; rintro e3 w3 ⟨rfl, hb3⟩; rw [HZ.out]; have hb3' := (Below.refl w2.heap.size w2).drew.trans hb3; have HB3 := Lib.hid (HB2.out.trans (hb3'.mono HB2.out.size)); have Q3 := Lib.hid (Q2.out.below hb3'); clear y0 y1 q0 q1 q2 q3; obtain ⟨y0, y1⟩ := FY.out _ HB3.out; obtain ⟨q0, q1, q2, q3⟩ := Q3.out; clear hb3 hb3')
                go_ret
                exact ⟨k, rfl, .inl ⟨k, hlt, rfl, FIN.out HN.out, hpre.out⟩, HB3.out⟩
              · have HN := Lib.hid (show nextR x c = false by rw [HNX.out, hz, decide_eq_false h1]; rfl)
                have e0 : (z == 0) = true := by rw [beq_iff_eq]; exact hz
                have e1 : 0 ≤ z := by omega
                have e2 : (x.kind == 1) = false := by rw [beq_eq_false_iff_ne]; exact h1
                clear h1
                clear hz HNX
                go_upto_region 11 with fail
                go_still_tail 8, (by kernel_rfl)
                go_wp2_with (go_at_call 14; refine (orderR_any x.path c.path _ (by omega) (by omega)).mono ?_; rintro e3 w3 ⟨rfl, hb3⟩; rw [HZ.out]; have hb3' := (Below.refl w2.heap.size w2).drew.trans hb3; have HB3 := Lib.hid (HB2.out.trans (hb3'.mono HB2.out.size)); have Q3 := Lib.hid (Q2.out.below hb3'); clear y0 y1 q0 q1 q2 q3; obtain ⟨y0, y1⟩ := FY.out _ HB3.out; obtain ⟨q0, q1, q2, q3⟩ := Q3.out; clear hb3 hb3')
                go_ret
                exact ⟨k, rfl, .inl ⟨k, hlt, rfl, FIN.out HN.out, hpre.out⟩, HB3.out⟩
              · have HN := Lib.hid (show nextR x c = false by rw [HNX.out, decide_eq_true (by omega), decide_eq_false (by omega : ¬ z = 0)]; rfl)
                have e0 : (z == 0) = false := by rw [beq_eq_false_iff_ne]; omega
                have e1 : 0 ≤ z := by omega
                clear hz HNX
                go_upto_region 11 with fail
                go_still_tail 8, (by kernel_rfl)
                go_wp2_with (go_at_call 14; refine (orderR_any x.path c.path _ (by omega) (by omega)).mono ?_; rintro e3 w3 ⟨rfl, hb3⟩; rw [HZ.out]; have hb3' := (Below.refl w2.heap.size w2).drew.trans hb3; have HB3 := Lib.hid (HB2.out.trans (hb3'.mono HB2.out.size)); have Q3 := Lib.hid (Q2.out.below hb3'); clear y0 y1 q0 q1 q2 q3; obtain ⟨y0, y1⟩ := FY.out _ HB3.out; obtain ⟨q0, q1, q2, q3⟩ := Q3.out; clear hb3 hb3')
                go_ret
                exact ⟨k, rfl, .inl ⟨k, hlt, rfl, FIN.out HN.out, hpre.out⟩, HB3.out⟩
    · obtain rfl : k = l.length := by omega
      clear hr
      go_wp2
      go_ret
      exact ⟨-1, rfl, .inr ⟨rfl, hpre.out⟩, hbel⟩
end Go.Proofs.YtjampkdbieoboaaGreatDoor
