/-
  The program's own tree.Valid: the first change that may not stand where it stands: the walk.
-/
import Derived.Deep.DeepCutAuto
import Derived.StillTailTactics
import Derived.Test.YtpkabccinhfmbaaGreatDoorY01
import Derived.Test.YtpkabccinhfmbaaGreatDoorY02
set_option linter.unusedVariables false
set_option linter.unusedSimpArgs false
namespace Go.Proofs.YtpkabccinhfmbaaGreatDoor
open Go.RowKit

/-- what is shut, in the program's two variables -/
def ShutV (o : Option (List UInt8)) (cl : Bool) (sh : List UInt8) : Prop := (cl = false ∧ o = none) ∨ (cl = true ∧ o = some sh)

set_option maxRecDepth 100000 in
set_option maxHeartbeats 16000000 in
theorem valid_any (l : List Ent) (A : Option Addr) (cap : Nat) (w : World) (hw : Std w) (hr : Rd w A (ents l)) (hl : l.length ≤ 2000000000) (hs : ∀ e ∈ l, e.path.length ≤ 2000000000 ∧ e.data.length ≤ 2000000000) :
    Calls Tryz.prog 25 #[.slice A l.length cap] w fun e w' => ∃ r, e = .returned (.int .i64 r) ∧ First (barP l) l.length r ∧ Below w.heap.size w w' := by
  have HS := Lib.hid hw
  clear hw
  go_enter Tryz.func25, Tryz.ntmps25
  go_wp2
  rw [show (ByteArray.mk #[]) = S [] from rfl]
  go_loopw [3, 4, 11] (fun s3 s4 i wr => ∃ (k : Nat) (sh : List UInt8) (cl : Bool), k ≤ l.length ∧ i = .int .i64 k ∧ s3 = .string (S sh) ∧ s4 = .bool cl ∧ sh.length ≤ 2000000001 ∧ Hid (ShutV (shutOf (l.take k)) cl sh) ∧ Hid (∀ j, j < k → barP l j = false) ∧ Below w.heap.size w wr) (fun _ _ i _ => l.length - (intOf i).toNat)
  case atStart => exact ⟨0, [], false, Nat.zero_le _, rfl, rfl, rfl, by simp, .inl ⟨rfl, rfl⟩, fun j hj => by omega, Below.refl _ _⟩
  case round =>
    obtain ⟨k, sh, cl, hk, rfl, rfl, rfl, hsl, HSh, hpre, hbel⟩ := hrel
    by_cases hlt : k < l.length
    · obtain ⟨b, o, rfl, hbb, g0, g1, g2, g3⟩ := ents_at hr hbel k hlt
      obtain ⟨c, hcc⟩ : ∃ c, l[k] = c := ⟨_, rfl⟩
      obtain ⟨hsp, hsd⟩ := hs c (hcc ▸ List.getElem_mem hlt)
      have HK := Lib.hid (show l[k]? = some c by rw [List.getElem?_eq_getElem hlt, hcc])
      rw [hcc] at g0 g1 g2 g3
      have Q0 := Lib.hid (Cell4.new wr c 33)
      have hb0 : Below w.heap.size w (wr.alloc (.cells #[.string (S c.path), .int .i64 c.kind, .int .i64 c.mode, .string (S c.data)] 33)) := hbel.alloc hbel.size _
      have HB0 := Lib.hid hb0
      have FX := Lib.hid (fun (q : Nat) (hq : q < l.length) (wx : World) (hb : Below w.heap.size w wx) => ents_at hr hb q hq)
      have hkl : (k : Int) < (l.length : Int) := by omega
      clear hcc hb0 hr
      obtain ⟨gx, hgx⟩ : ∃ g, g = wr.heap.size := ⟨_, rfl⟩
      rw [← hgx] at Q0
      go_upto_region 6 with fail
      rw [← hgx]
      clear hgx
      generalize hwz : wr.alloc (.cells #[.string (S c.path), .int .i64 c.kind, .int .i64 c.mode, .string (S c.data)] 33) = wz at *
      clear hwz
      obtain ⟨q0, q1, q2, q3⟩ := Q0.out
      obtain ⟨P6, hP6⟩ : ∃ P, (decide (k < 80) && pathB c.path) = P := ⟨_, rfl⟩
      have HP6 := Lib.hid hP6
      clear hP6
      go_cut [7] (fun v wx => v = .bool P6 ∧ Hid (Cell4 wx gx c) ∧ Hid (Below w.heap.size w wx))
      case first =>
        by_cases h80 : k < 80
        · have f80 : (k : Int) < 80 := by omega
          have Y := Lib.hid (show pathB c.path = P6 by rw [← HP6.out, decide_eq_true h80]; rfl)
          clear h80
          go_wp2_with (go_at_call 29; refine (pathP_any c.path _ (HS.out.below HB0.out) (by omega)).mono ?_; rintro e1 w1 ⟨rfl, hb1⟩; rw [Y.out]; have Q1 := Lib.hid (Q0.out.below hb1); have HB1 := Lib.hid (HB0.out.trans (hb1.mono HB0.out.size)); clear hb1)
          go_meet
          exact ⟨rfl, Q1, HB1⟩
        · have f80 : ¬ ((k : Int) < 80) := by omega
          obtain rfl : false = P6 := by rw [← HP6.out, decide_eq_false h80]; rfl
          clear h80
          go_wp2
          go_meet
          exact ⟨rfl, Q0, HB0⟩
      case rest =>
        obtain ⟨rfl, Q1, HB1⟩ := hcut
        clear Q0 HB0 q0 q1 q2 q3
        obtain ⟨q0, q1, q2, q3⟩ := Q1.out
        obtain ⟨Sh, hSh⟩ : ∃ P, shapeP k c = P := ⟨_, rfl⟩
        have HSp := Lib.hid hSh
        clear hSh
        go_upto_region 7 with fail
        go_cut [24] (fun v wx => v = .int .i64 c.kind ∧ Hid (Cell4 wx gx c) ∧ Hid (Below w.heap.size w wx))
        case first =>
          go_wp2
          go_meet
          exact ⟨rfl, Q1, HB1⟩
        case rest =>
        obtain ⟨rfl, Q2, HB2⟩ := hcut
        clear Q1 HB1 q0 q1 q2 q3
        obtain ⟨q0, q1, q2, q3⟩ := Q2.out
        rename_i hKo K2 hK
        refine hK _ _ ?_
        go_cut [7] (fun v wx => v = .bool Sh ∧ Hid (Cell4 wx gx c) ∧ Hid (Below w.heap.size w wx))
        case first =>
          have HE := Lib.hid (show Sh = (P6 && (if c.kind = 4 then !c.path.isEmpty && decide (c.mode = 0) && c.data.isEmpty else if c.kind = 5 then decide (c.mode = 0) && c.data.isEmpty else !c.path.isEmpty && goodB c)) by rw [← HSp.out, ← HP6.out]; unfold shapeP; rfl)
          clear HSp HP6
          have fe : ∀ s : List UInt8, s = [] → s.isEmpty = true ∧ (s == []) = true := fun s h => by subst h; exact ⟨rfl, rfl⟩
          have fn : ∀ s : List UInt8, s ≠ [] → s.isEmpty = false ∧ (s == []) = false := fun s h => ⟨by rw [List.isEmpty_eq_false_iff]; exact h, by rw [beq_eq_false_iff_ne]; exact h⟩
          by_cases h4 : c.kind = 4
          · have f4 : (c.kind == 4) = true := by rw [beq_iff_eq]; exact h4
            rw [if_pos h4] at HE
            clear h4
            cases P6
            · obtain rfl : Sh = false := by rw [HE.out]; rfl
              clear HE fe fn
              go_wp2
              go_meet
              exact ⟨rfl, Q2, HB2⟩
            · by_cases p0 : c.path = []
              · obtain ⟨e1, e2⟩ := fe _ p0
                obtain rfl : Sh = false := by rw [HE.out, e1]; rfl
                clear HE fe fn p0
                go_wp2
                go_meet
                exact ⟨rfl, Q2, HB2⟩
              · obtain ⟨e1, e2⟩ := fn _ p0
                by_cases m0 : c.mode = 0
                · have fm : (c.mode == 0) = true := by rw [beq_iff_eq]; exact m0
                  by_cases d0 : c.data = []
                  · obtain ⟨e3, e4⟩ := fe _ d0
                    obtain rfl : Sh = true := by rw [HE.out, e1, decide_eq_true m0, e3]; rfl
                    clear HE fe fn p0 m0 d0
                    go_wp2
                    go_meet
                    exact ⟨rfl, Q2, HB2⟩
                  · obtain ⟨e3, e4⟩ := fn _ d0
                    obtain rfl : Sh = false := by rw [HE.out, e1, decide_eq_true m0, e3]; rfl
                    clear HE fe fn p0 m0 d0
                    go_wp2
                    go_meet
                    exact ⟨rfl, Q2, HB2⟩
                · have fm : (c.mode == 0) = false := by rw [beq_eq_false_iff_ne]; exact m0
                  obtain rfl : Sh = false := by rw [HE.out, e1, decide_eq_false m0]; rfl
                  clear HE fe fn p0 m0
                  go_wp2
                  go_meet
                  exact ⟨rfl, Q2, HB2⟩
          · have f4 : (c.kind == 4) = false := by rw [beq_eq_false_iff_ne]; exact h4
            rw [if_neg h4] at HE
            clear h4
            by_cases h5 : c.kind = 5
            · have f5 : (c.kind == 5) = true := by rw [beq_iff_eq]; exact h5
              rw [if_pos h5] at HE
              clear h5
              cases P6
              · obtain rfl : Sh = false := by rw [HE.out]; rfl
                clear HE fe fn
                go_wp2
                go_meet
                exact ⟨rfl, Q2, HB2⟩
              · by_cases m0 : c.mode = 0
                · have fm : (c.mode == 0) = true := by rw [beq_iff_eq]; exact m0
                  by_cases d0 : c.data = []
                  · obtain ⟨e3, e4⟩ := fe _ d0
                    obtain rfl : Sh = true := by rw [HE.out, decide_eq_true m0, e3]; rfl
                    clear HE fe fn m0 d0
                    go_wp2
                    go_meet
                    exact ⟨rfl, Q2, HB2⟩
                  · obtain ⟨e3, e4⟩ := fn _ d0
                    obtain rfl : Sh = false := by rw [HE.out, decide_eq_true m0, e3]; rfl
                    clear HE fe fn m0 d0
                    go_wp2
                    go_meet
                    exact ⟨rfl, Q2, HB2⟩
                · have fm : (c.mode == 0) = false := by rw [beq_eq_false_iff_ne]; exact m0
                  obtain rfl : Sh = false := by rw [HE.out, decide_eq_false m0]; rfl
                  clear HE fe fn m0
                  go_wp2
                  go_meet
                  exact ⟨rfl, Q2, HB2⟩
            · have f5 : (c.kind == 5) = false := by rw [beq_eq_false_iff_ne]; exact h5
              rw [if_neg h5] at HE
              clear h5
              cases P6
              · obtain rfl : Sh = false := by rw [HE.out]; rfl
                clear HE fe fn
                go_wp2
                go_meet
                exact ⟨rfl, Q2, HB2⟩
              · by_cases p0 : c.path = []
                · obtain ⟨e1, e2⟩ := fe _ p0
                  obtain rfl : Sh = false := by rw [HE.out, e1]; rfl
                  clear HE fe fn p0
                  go_wp2
                  go_meet
                  exact ⟨rfl, Q2, HB2⟩
                · obtain ⟨e1, e2⟩ := fn _ p0
                  have Y := Lib.hid (show goodB c = Sh by rw [HE.out, e1]; simp)
                  clear HE fe fn p0
                  go_wp2_with (go_at_call 30; refine (goodP_any c _ (by omega)).mono ?_; rintro e9 w9 ⟨rfl, hb9⟩; rw [Y.out]; have Q3 := Lib.hid (Q2.out.below hb9); have HB3 := Lib.hid (HB2.out.trans (hb9.mono HB2.out.size)); clear hb9)
                  go_meet
                  exact ⟨rfl, Q3, HB3⟩
        case rest =>
        obtain ⟨rfl, Q3, HB3⟩ := hcut
        clear Q2 HB2 q0 q1 q2 q3
        obtain ⟨q0, q1, q2, q3⟩ := Q3.out
        obtain ⟨N, hN⟩ : ∃ N, (match l[k - 1]? with | some x => decide (k = 0) || nextP x c | none => true) = N := ⟨_, rfl⟩
        have HN := Lib.hid hN
        have HBar := Lib.hid (show barP l k = (!(Sh && N) || shutP (shutOf (l.take k)) c) by rw [barP, HK.out, ← HSp.out, ← hN]; rfl)
        clear hN
        go_upto_region 13 with fail
        go_cut [60] (fun v wx => v = .bool (decide (0 < k) && Sh) ∧ Hid (Cell4 wx gx c) ∧ Hid (Below w.heap.size w wx))
        case first =>
          by_cases h0 : 0 < k
          · have f0 : (0 : Int) < (k : Int) := by omega
            have H0 := Lib.hid h0
            clear h0
            go_wp2
            go_meet
            exact ⟨by rw [decide_eq_true H0.out]; rfl, Q3, HB3⟩
          · have f0 : ¬ ((0 : Int) < (k : Int)) := by omega
            have H0 := Lib.hid h0
            clear h0
            go_wp2
            go_meet
            exact ⟨by rw [decide_eq_false H0.out]; rfl, Q3, HB3⟩
        case rest =>
        obtain ⟨rfl, Q4, HB4⟩ := hcut
        clear Q3 HB3 q0 q1 q2 q3
        obtain ⟨q0, q1, q2, q3⟩ := Q4.out
        go_upto_if 60 with fail
        go_cut [7, 8] (fun v d wx => v = .bool (Sh && N) ∧ Hid (Cell4 wx gx c) ∧ Hid (Below w.heap.size w wx))
        case first =>
          by_cases h0 : 0 < k
          · rw [decide_eq_true h0]
            cases Sh
            · clear h0
              go_wp2
              go_meet
              exact ⟨rfl, Q4, HB4⟩
            · obtain ⟨m, hkm⟩ : ∃ m, k = m + 1 := ⟨k - 1, by omega⟩
              have hml : m < l.length := by omega
              obtain ⟨x, hxe⟩ : ∃ x, l[m] = x := ⟨_, rfl⟩
              have FY := Lib.hid (show ∀ wx, Below w.heap.size w wx → wx.cell? ⟨b, o + m * 4, none⟩ = some (.string (S x.path)) ∧ wx.cell? ⟨b, o + m * 4 + 1, none⟩ = some (.int .i64 x.kind) by
                intro wx hb
                obtain ⟨b', o', hAA, _, y0, y1, y2, y3⟩ := FX.out m hml wx hb
                obtain ⟨rfl, rfl⟩ : b' = b ∧ o' = o := by cases hAA; exact ⟨rfl, rfl⟩
                rw [hxe] at y0 y1
                exact ⟨y0, y1⟩)
              obtain ⟨hxp, _⟩ := hs x (hxe ▸ List.getElem_mem hml)
              have hm2 : (m : Int) < (l.length : Int) := by omega
              have hm3 : (0 : Int) ≤ (m : Int) := by omega
              have hwr : IntKind.i64.wrap ((k : Int) - 1) = (m : Int) := by rw [IntKind.wrap_i64]; omega
              obtain ⟨z, hz⟩ : ∃ z, compareL (partsB x.path) (partsB c.path) = z := ⟨_, rfl⟩
              have HZ := Lib.hid hz
              have HNX := Lib.hid (show (true && N) = nextP x c by
                rw [← HN.out, show l[k - 1]? = some x by rw [hkm, Nat.add_sub_cancel, List.getElem?_eq_getElem hml, hxe]]
                show (true && (decide (k = 0) || nextP x c)) = _
                rw [decide_eq_false (by omega : ¬ k = 0)]; simp)
              have hz5 : z < 0 ∨ (z = 0 ∧ x.kind = 1 ∧ c.kind = 5) ∨ (z = 0 ∧ x.kind = 1 ∧ c.kind ≠ 5) ∨ (z = 0 ∧ x.kind ≠ 1) ∨ 0 < z := by
                rcases Int.lt_trichotomy z 0 with h | h | h
                · exact .inl h
                · by_cases h1 : x.kind = 1
                  · by_cases h5 : c.kind = 5
                    · exact .inr (.inl ⟨h, h1, h5⟩)
                    · exact .inr (.inr (.inl ⟨h, h1, h5⟩))
                  · exact .inr (.inr (.inr (.inl ⟨h, h1⟩)))
                · exact .inr (.inr (.inr (.inr h)))
              obtain ⟨y0, y1⟩ := FY.out _ HB4.out
              have HKM := Lib.hid hkm
              clear hkm hxe hz h0
              rcases hz5 with hz | ⟨hz, h1, h5⟩ | ⟨hz, h1, h5⟩ | ⟨hz, h1⟩ | hz
              · have HV := Lib.hid (show (true && N) = true by rw [HNX.out]; unfold nextP; rw [HZ.out]; rw [if_neg (by omega), decide_eq_false (by omega)]; rfl)
                have e0 : (z == 0) = false := by rw [beq_eq_false_iff_ne]; omega
                have e1 : ¬ (0 < z) := by omega
                clear hz
                go_upto_region 14 with fail
                go_still_tail 8, (by kernel_rfl)
                go_wp2_with (go_at_call 31; refine (compareP_any x.path c.path _ (HS.out.below (below_drewN HB4.out 1)) (by omega) (by omega)).mono ?_; rintro e3 w3 ⟨rfl, hb3⟩; rw [HZ.out]; have hb3' := (Below.refl wc.heap.size wc).drew.trans hb3; have HB5 := Lib.hid (HB4.out.trans (hb3'.mono HB4.out.size)); have Q5 := Lib.hid (Q4.out.below hb3'); clear y0 y1 q0 q1 q2 q3; obtain ⟨y0, y1⟩ := FY.out _ HB5.out; obtain ⟨q0, q1, q2, q3⟩ := Q5.out; clear hb3 hb3')
                go_meet
                exact ⟨bool_eq HV.out.symm, Q5, HB5⟩
              · have HV := Lib.hid (show (true && N) = true by rw [HNX.out]; unfold nextP; rw [HZ.out]; rw [if_pos hz, h1, h5]; rfl)
                have e0 : (z == 0) = true := by rw [beq_iff_eq]; exact hz
                have e2 : (x.kind == 1) = true := by rw [beq_iff_eq]; exact h1
                have e3 : (c.kind == 5) = true := by rw [beq_iff_eq]; exact h5
                clear hz h1 h5
                go_upto_region 14 with fail
                go_still_tail 8, (by kernel_rfl)
                go_wp2_with (go_at_call 31; refine (compareP_any x.path c.path _ (HS.out.below (below_drewN HB4.out 1)) (by omega) (by omega)).mono ?_; rintro e3 w3 ⟨rfl, hb3⟩; rw [HZ.out]; have hb3' := (Below.refl wc.heap.size wc).drew.trans hb3; have HB5 := Lib.hid (HB4.out.trans (hb3'.mono HB4.out.size)); have Q5 := Lib.hid (Q4.out.below hb3'); clear y0 y1 q0 q1 q2 q3; obtain ⟨y0, y1⟩ := FY.out _ HB5.out; obtain ⟨q0, q1, q2, q3⟩ := Q5.out; clear hb3 hb3')
                go_meet
                exact ⟨bool_eq HV.out.symm, Q5, HB5⟩
              · have HV := Lib.hid (show (true && N) = false by rw [HNX.out]; unfold nextP; rw [HZ.out]; rw [if_pos hz, h1, decide_eq_false h5]; rfl)
                have e0 : (z == 0) = true := by rw [beq_iff_eq]; exact hz
                have e2 : (x.kind == 1) = true := by rw [beq_iff_eq]; exact h1
                have e3 : (c.kind == 5) = false := by rw [beq_eq_false_iff_ne]; exact h5
                clear hz h1 h5
                go_upto_region 14 with fail
                go_still_tail 8, (by kernel_rfl)
                go_wp2_with (go_at_call 31; refine (compareP_any x.path c.path _ (HS.out.below (below_drewN HB4.out 1)) (by omega) (by omega)).mono ?_; rintro e3 w3 ⟨rfl, hb3⟩; rw [HZ.out]; have hb3' := (Below.refl wc.heap.size wc).drew.trans hb3; have HB5 := Lib.hid (HB4.out.trans (hb3'.mono HB4.out.size)); have Q5 := Lib.hid (Q4.out.below hb3'); clear y0 y1 q0 q1 q2 q3; obtain ⟨y0, y1⟩ := FY.out _ HB5.out; obtain ⟨q0, q1, q2, q3⟩ := Q5.out; clear hb3 hb3')
                go_meet
                exact ⟨bool_eq HV.out.symm, Q5, HB5⟩
              · have HV := Lib.hid (show (true && N) = false by rw [HNX.out]; unfold nextP; rw [HZ.out]; rw [if_pos hz, decide_eq_false h1]; rfl)
                have e0 : (z == 0) = true := by rw [beq_iff_eq]; exact hz
                have e2 : (x.kind == 1) = false := by rw [beq_eq_false_iff_ne]; exact h1
                clear hz h1
                go_upto_region 14 with fail
                go_still_tail 8, (by kernel_rfl)
                go_wp2_with (go_at_call 31; refine (compareP_any x.path c.path _ (HS.out.below (below_drewN HB4.out 1)) (by omega) (by omega)).mono ?_; rintro e3 w3 ⟨rfl, hb3⟩; rw [HZ.out]; have hb3' := (Below.refl wc.heap.size wc).drew.trans hb3; have HB5 := Lib.hid (HB4.out.trans (hb3'.mono HB4.out.size)); have Q5 := Lib.hid (Q4.out.below hb3'); clear y0 y1 q0 q1 q2 q3; obtain ⟨y0, y1⟩ := FY.out _ HB5.out; obtain ⟨q0, q1, q2, q3⟩ := Q5.out; clear hb3 hb3')
                go_meet
                exact ⟨bool_eq HV.out.symm, Q5, HB5⟩
              · have HV := Lib.hid (show (true && N) = false by rw [HNX.out]; unfold nextP; rw [HZ.out]; rw [if_neg (by omega), decide_eq_true (by omega)]; rfl)
                have e0 : (z == 0) = false := by rw [beq_eq_false_iff_ne]; omega
                have e1 : 0 < z := by omega
                clear hz
                go_upto_region 14 with fail
                go_still_tail 8, (by kernel_rfl)
                go_wp2_with (go_at_call 31; refine (compareP_any x.path c.path _ (HS.out.below (below_drewN HB4.out 1)) (by omega) (by omega)).mono ?_; rintro e3 w3 ⟨rfl, hb3⟩; rw [HZ.out]; have hb3' := (Below.refl wc.heap.size wc).drew.trans hb3; have HB5 := Lib.hid (HB4.out.trans (hb3'.mono HB4.out.size)); have Q5 := Lib.hid (Q4.out.below hb3'); clear y0 y1 q0 q1 q2 q3; obtain ⟨y0, y1⟩ := FY.out _ HB5.out; obtain ⟨q0, q1, q2, q3⟩ := Q5.out; clear hb3 hb3')
                go_meet
                exact ⟨bool_eq HV.out.symm, Q5, HB5⟩
          · have HV := Lib.hid (show (Sh && N) = Sh by
              rw [← HN.out, show k = 0 by omega]; cases l[0 - 1]? <;> simp)
            rw [decide_eq_false h0, Bool.false_and]
            clear h0
            go_wp2
            go_meet
            exact ⟨bool_eq HV.out.symm, Q4, HB4⟩
        case rest =>
        obtain ⟨rfl, Q5, HB5⟩ := hcut
        clear Q4 HB4 q0 q1 q2 q3
        obtain ⟨q0, q1, q2, q3⟩ := Q5.out
        cases hOk : (Sh && N)
        · have HB := Lib.hid (show barP l k = true by rw [HBar.out, hOk]; rfl)
          clear hOk
          go_wp2
          go_ret
          exact ⟨k, rfl, .inl ⟨k, hlt, rfl, HB.out, hpre.out⟩, HB5.out⟩
        · have HBs := Lib.hid (show barP l k = shutP (shutOf (l.take k)) c by rw [HBar.out, hOk]; simp)
          clear hOk
          have hw : (cl = true ∧ sh.isPrefixOf c.path = true) ∨ cl = false ∨ (cl = true ∧ sh.isPrefixOf c.path = false) := by
            cases cl
            · exact .inr (.inl rfl)
            · cases sh.isPrefixOf c.path
              · exact .inr (.inr ⟨rfl, rfl⟩)
              · exact .inl ⟨rfl, rfl⟩
          have HPx := Lib.hid (fun wx => hasPrefixT_any c.path sh wx)
          have HTk := Lib.hid (show l.take (k + 1) = l.take k ++ [c] by
            have h := HK.out
            rw [List.getElem?_eq_getElem hlt] at h
            rw [List.take_succ_eq_append_getElem hlt, Option.some.inj h])
          rcases hw with ⟨rfl, hp⟩ | rfl | ⟨rfl, hp⟩
          · have HB := Lib.hid (show barP l k = true by
              rw [HBs.out]
              rcases HSh.out with ⟨h, _⟩ | ⟨_, h⟩
              · cases h
              · rw [h]; exact hp)
            rw [hp] at HPx
            clear hp
            go_wp2_with (go_at_call 38; refine (HPx.out _).mono ?_; rintro e6 w6 ⟨rfl, rfl⟩)
            go_ret
            exact ⟨k, rfl, .inl ⟨k, hlt, rfl, HB.out, hpre.out⟩, HB5.out⟩
          · have HNB := Lib.hid (show barP l k = false by
              rw [HBs.out]
              rcases HSh.out with ⟨_, h⟩ | ⟨h, _⟩
              · rw [h]; rfl
              · cases h)
            have HPr := Lib.hid (show ∀ j, j < k + 1 → barP l j = false by
              intro j hj
              rcases Nat.lt_or_ge j k with h | h
              · exact hpre.out j h
              · obtain rfl : j = k := by omega
                exact HNB.out)
            by_cases h1 : c.kind = 1
            · have e1 : (c.kind != 1) = false := by rw [h1]; rfl
              have HN2 := Lib.hid (show ShutV (shutOf (l.take (k + 1))) false sh by
                rw [HTk.out, shutOf_snoc, show shuts c = false by unfold shuts; rw [decide_eq_true h1]; rfl]; exact HSh.out)
              clear h1
              go_wp2
              go_roundw
              case rel => exact ⟨k + 1, sh, false, by omega, by go_num, rfl, rfl, hsl, HN2, HPr, HB5.out⟩
              case measure => simp [intOf]; omega
            · have e1 : (c.kind != 1) = true := by rw [bne_iff_ne]; exact h1
              by_cases h5 : c.kind = 5
              · have e2 : (c.kind != 5) = false := by rw [h5]; rfl
                have HN2 := Lib.hid (show ShutV (shutOf (l.take (k + 1))) false sh by
                  rw [HTk.out, shutOf_snoc, show shuts c = false by unfold shuts; rw [decide_eq_false h1, decide_eq_true h5]; rfl]; exact HSh.out)
                clear h1 h5
                go_wp2
                go_roundw
                case rel => exact ⟨k + 1, sh, false, by omega, by go_num, rfl, rfl, hsl, HN2, HPr, HB5.out⟩
                case measure => simp [intOf]; omega
              · have e2 : (c.kind != 5) = true := by rw [bne_iff_ne]; exact h5
                have HN2 := Lib.hid (show ShutV (shutOf (l.take (k + 1))) true (c.path ++ [47]) by
                  rw [HTk.out, shutOf_snoc, show shuts c = true from shuts_iff.2 ⟨h1, h5⟩]; exact .inr ⟨rfl, rfl⟩)
                clear h1 h5
                go_wp2
                go_roundw
                case rel => exact ⟨k + 1, c.path ++ [47], true, by omega, by go_num, rfl, rfl, by simp; omega, HN2, HPr, HB5.out⟩
                case measure => simp [intOf]; omega
          · have HNB := Lib.hid (show barP l k = false by
              rw [HBs.out]
              rcases HSh.out with ⟨h, _⟩ | ⟨_, h⟩
              · cases h
              · rw [h]; exact hp)
            rw [hp] at HPx
            clear hp
            have HPr := Lib.hid (show ∀ j, j < k + 1 → barP l j = false by
              intro j hj
              rcases Nat.lt_or_ge j k with h | h
              · exact hpre.out j h
              · obtain rfl : j = k := by omega
                exact HNB.out)
            by_cases h1 : c.kind = 1
            · have e1 : (c.kind != 1) = false := by rw [h1]; rfl
              have HN2 := Lib.hid (show ShutV (shutOf (l.take (k + 1))) true sh by
                rw [HTk.out, shutOf_snoc, show shuts c = false by unfold shuts; rw [decide_eq_true h1]; rfl]; exact HSh.out)
              clear h1
              go_wp2_with (go_at_call 38; refine (HPx.out _).mono ?_; rintro e6 w6 ⟨rfl, rfl⟩)
              go_roundw
              case rel => exact ⟨k + 1, sh, true, by omega, by go_num, rfl, rfl, hsl, HN2, HPr, HB5.out⟩
              case measure => simp [intOf]; omega
            · have e1 : (c.kind != 1) = true := by rw [bne_iff_ne]; exact h1
              by_cases h5 : c.kind = 5
              · have e2 : (c.kind != 5) = false := by rw [h5]; rfl
                have HN2 := Lib.hid (show ShutV (shutOf (l.take (k + 1))) true sh by
                  rw [HTk.out, shutOf_snoc, show shuts c = false by unfold shuts; rw [decide_eq_false h1, decide_eq_true h5]; rfl]; exact HSh.out)
                clear h1 h5
                go_wp2_with (go_at_call 38; refine (HPx.out _).mono ?_; rintro e6 w6 ⟨rfl, rfl⟩)
                go_roundw
                case rel => exact ⟨k + 1, sh, true, by omega, by go_num, rfl, rfl, hsl, HN2, HPr, HB5.out⟩
                case measure => simp [intOf]; omega
              · have e2 : (c.kind != 5) = true := by rw [bne_iff_ne]; exact h5
                have HN2 := Lib.hid (show ShutV (shutOf (l.take (k + 1))) true (c.path ++ [47]) by
                  rw [HTk.out, shutOf_snoc, show shuts c = true from shuts_iff.2 ⟨h1, h5⟩]; exact .inr ⟨rfl, rfl⟩)
                clear h1 h5
                go_wp2_with (go_at_call 38; refine (HPx.out _).mono ?_; rintro e6 w6 ⟨rfl, rfl⟩)
                go_roundw
                case rel => exact ⟨k + 1, c.path ++ [47], true, by omega, by go_num, rfl, rfl, by simp; omega, HN2, HPr, HB5.out⟩
                case measure => simp [intOf]; omega
    · obtain rfl : k = l.length := by omega
      clear hr
      go_wp2
      go_ret
      exact ⟨-1, rfl, .inr ⟨rfl, hpre.out⟩, hbel⟩
end Go.Proofs.YtpkabccinhfmbaaGreatDoor
