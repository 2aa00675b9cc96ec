/-
  The program's own parser: an instruction: the walk: MKDIR.
-/
import Derived.Deep.RegionHeld3
import Derived.Test.YtflggoddfjmljaaGreatDoorY13
set_option linter.unusedVariables false
set_option linter.unusedSimpArgs false
namespace Go.Proofs.YtflggoddfjmljaaGreatDoor
open Go.RowKit

set_option maxRecDepth 100000 in
set_option maxHeartbeats 16000000 in
theorem instrP_mkdir (st : List StageG) (x0 : WordG) (l : List WordG) (B gp b o lw c kk : Nat) (ao : Option Addr) (w : World) (h5 : st.length ≤ 5) (hbd : StB 50 st) (hk24 : kk ≤ 24) (hp : PB w gp ao st.length c kk) (hst : FStagesR B w st ao c) (hB : B ≤ w.heap.size) (hgp : B ≤ gp) (hord : Ord w)
    (hw : FWordsR w (some ⟨b, o, none⟩) (x0 :: l)) (hg : GoodW (x0 :: l)) (hl4 : l.length + 1 ≤ 2000) (hlc : l.length + 1 ≤ lw) (hlm : lw ≤ maxLen) (hne : st ≠ []) (ht : x0.text = wMKDIR) (hlo : 1 ≤ l.length) (hhi : l.length ≤ 2) :
    Calls Tryz.prog 34 #[.pointer (some ⟨gp, 0, none⟩), .slice (some ⟨b, o, none⟩) (l.length + 1) lw] w fun e w' => instrOut B gp kk w w' e (instrR st (x0 :: l) kk) ∧ Below B w w' ∧ KeepY w w' := by
  obtain ⟨hf1, hf2, hf3, hfv, _⟩ := form_MKDIR
  rw [← ht] at hf1 hf2 hf3
  obtain ⟨H, init, y, gb, cs0, sv, vv, scs, rfl, rfl, hL⟩ := hst.last hne
  obtain ⟨sa, sc, rfl⟩ := ownsRow_form hL.steps
  obtain ⟨va, vc, rfl⟩ := ownsRow_form hL.vars
  rw [List.length_append, List.length_singleton] at hp h5
  have hi : init.length ≤ 4 := by omega
  have hy := hbd y (by simp)
  have hyv := hy.1
  have hys := hy.2
  have HL := Lib.hid hL
  have hs0 : ((init.length : Int) + 1 == 0) = false := by rw [beq_eq_false_iff_ne]; omega
  have hk0 : kk + 1 ≤ 9223372036854775807 := by omega
  clear hL hy
  have HPB := Lib.hid hp
  have HST := Lib.hid hst
  have HW := Lib.hid hw
  have HGL := Lib.hid (show GoodW l from fun x hx => hg x (List.mem_cons_of_mem _ hx))
  have HO := Lib.hid hord
  obtain ⟨fa, fc, hb, m1, m2, ho⟩ := hw.one (k := 0) (by simp)
  rw [Nat.zero_mul, Nat.add_zero] at m1 m2
  rw [show nth (x0 :: l) 0 = x0 from rfl] at m1 m2 ho
  have hgx : GoodA x0.l ∧ x0.l.length ≤ 2000 := hg x0 (by simp)
  have HPl := Lib.hid (show ∀ wx : World, Below w.heap.size w wx → Calls Tryz.prog 53 #[.agg #[.slice fa x0.pl.length fc, .int .i64 x0.at_]] wx fun e w' => e = .returned (.tuple #[.string (S x0.text), .bool x0.flat]) ∧ Below wx.heap.size wx w' from
    fun wx hb => plainW_any x0 fa fc 0 _ wx hgx.1 hgx.2 rfl (ownsRow_below ho hb))
  have hl0 : (0 : Int) < (l.length : Int) + 1 := by omega
  have hl1' : (1 : Int) ≤ (l.length : Int) + 1 := by omega
  have hlc' : (l.length : Int) + 1 ≤ (lw : Int) := by omega
  have hlw : ¬ lw = 1 := by omega
  have hr0 := instrR_step (st := init ++ [y]) (ws := x0 :: l) (n := kk) hf3 (by rintro (h | h | h); exact absurd h.1 (by simp); simp at h; omega; simp at h; omega) (by rw [show (nth (x0 :: l) 0).text = x0.text from rfl, ht]; decide)
  have HR := Lib.hid (show instrR (init ++ [y]) (x0 :: l) kk = (match mkdirR l with | .error f => .error f | .ok _ => match unsetB y.vars l with | some p => .error (7, p) | none => if 24 < kk + 1 then .error (10, x0.at_) else .ok (init ++ [⟨y.name, y.base, y.steps ++ [⟨x0.text, l, -1, x0.at_⟩], y.vars⟩])) by
    rw [hr0]
    unfold stepB
    rw [show (nth (x0 :: l) 0).text = x0.text from rfl, ht]
    have h1 : nth (x0 :: l) 2 = nth l 1 := rfl
    have hl : looksB (init ++ [y]) wMKDIR (x0 :: l) = (match mkdirR l with | .error f => .error f | .ok _ => .ok (-1, l)) := by
      unfold looksB mkdirR
      rw [if_neg (by decide), if_pos rfl, h1, show (x0 :: l).length = l.length + 1 from rfl]
      simp only [show (l.length + 1 = 3) = (l.length = 2) by rw [eq_iff_iff]; omega]
      by_cases hc : l.length = 2 ∧ ((nth l 1).flat = false ∨ modeB (nth l 1).text = false)
      · rw [if_pos hc, if_pos hc]
      · rw [if_neg hc, if_neg hc]; rfl
    rw [hl]
    cases mkdirR l with
    | error f => rfl
    | ok _ =>
      simp only
      rw [lastVars_last]
      cases unsetB y.vars l with
      | some p => rfl
      | none =>
        simp only
        rw [pushB_last, if_neg (show ¬ wMKDIR = wENV by decide), List.append_nil]
        rfl)
  have HFR := Lib.hid hf1
  have HKD := Lib.hid hf2
  clear hf1 hf2 hf3 hr0 ht
  clear hp hst hw hg hord ho hgx
  generalize x0.text = t0 at *
  generalize x0.pl.length = q0 at *
  generalize x0.at_ = pa0 at *
  generalize x0.flat = fl0 at *
  have hlo2 : decide (l.length < 1) = false := by rw [decide_eq_false_iff_not]; omega
  have hhi3 : decide (2 < l.length) = false := by rw [decide_eq_false_iff_not]; omega
  have hlo3 : ¬ l.length < 1 := by omega
  have hhi4 : ¬ 2 < l.length := by omega
  have hnf : ∀ w : World, (binOp .neq 133 (.func (Fn.func 69) #[] #[]) .nilFunc).run Tryz.prog w = .ok (.bool true) w := fun _ => by kernel_rfl
  go_enter Tryz.func34, Tryz.ntmps34
  go_wp2_with (first
    | (go_at_call 53; refine (HPl.out _ (Below.refl _ _)).mono ?_; rintro e1 w1 ⟨rfl, hb1⟩; have hO1 := Lib.hid (HO.out.after hb1))
    | (go_at_call 54; refine (formOfP_any t0 _ hO1.out).mono ?_; rintro e2 w2 ⟨rfl, hb2⟩; rw [HFR.out]; have hb12 := hb1.trans (hb2.mono hb1.size)))
  have hbA : Below w.heap.size w (w2.alloc (.cells #[.string (S t0), .int .i64 1, .int .i64 2, .func (Fn.func 69) #[] #[]] tForm)) := hb12.alloc hb12.size _
  have HFB := Lib.hid (Blk4.new w2 (.string (S t0)) (.int .i64 1) (.int .i64 2) (.func (Fn.func 69) #[] #[]) tForm)
  have hgf : w.heap.size ≤ w2.heap.size := hb12.size
  generalize hWA : w2.alloc (.cells #[.string (S t0), .int .i64 1, .int .i64 2, .func (Fn.func 69) #[] #[]] tForm) = wA at *
  generalize w2.heap.size = gf at *
  clear hWA hb12 hb1 hb2 hO1
  have k2A := Below.cellAt hbA hb m2
  have hOA := Lib.hid (HO.out.after hbA)
  have hzA := hbA.size
  obtain ⟨p1, p2, p3, p4⟩ := (HPB.out.after (belowDrew hbA)).blk2.facts
  have hpl := (HPB.out.after hbA).lt
  obtain ⟨f0, f1, f2, f3, _, _, _, _⟩ := HFB.out.facts
  have hfl := HFB.out.lt
  have hpA : wA.cell? ⟨gp, 0, none⟩ = some (.slice (some ⟨gb, 0, none⟩) (init.length + 1) c) := (HPB.out.after hbA).blk2.facts.1
  go_region_held3 (fun w' => w'.cell? ⟨b, o + 1, none⟩ = some (.int .i64 pa0)) (go_keep) (first | (go_at_call 55; refine (indexOrd_any t0 _ (by first | exact hOA.out.after (belowDrew (Below.refl _ _)) | exact hOA.out.after (belowDrew (Below.alloc (Below.refl _ _) (Nat.le_refl _) _)))).mono ?_; rintro e3 w3 ⟨rfl, rfl⟩; rw [HKD.out]))
  all_goals
    have hbB : Below w.heap.size w (wA.alloc (.cells #[.int .i64 4, .slice (some ⟨b, o + 2, none⟩) l.length (lw - 1), .int .i64 (-1), .int .i64 pa0] tFStep)).drew := belowDrew (hbA.alloc hzA _)
    have HSB := Lib.hid (show SBlk (wA.alloc (.cells #[.int .i64 4, .slice (some ⟨b, o + 2, none⟩) l.length (lw - 1), .int .i64 (-1), .int .i64 pa0] tFStep)).drew wA.heap.size 4 (some ⟨b, o + 2, none⟩) l.length (lw - 1) (-1) pa0 from ⟨heap_alloc_new wA _⟩)
    have HFX := Lib.hid (Blk4.drew (HFB.out.alloc' (.cells #[.int .i64 4, .slice (some ⟨b, o + 2, none⟩) l.length (lw - 1), .int .i64 (-1), .int .i64 pa0] tFStep)))
    have hgs : w.heap.size ≤ wA.heap.size := hzA
    clear f0 f1 f2 f3 hfl p1 p2 p3 p4 hpl hpA k2A
    generalize hWB : (wA.alloc (.cells #[.int .i64 4, .slice (some ⟨b, o + 2, none⟩) l.length (lw - 1), .int .i64 (-1), .int .i64 pa0] tFStep)).drew = wB at *
    generalize wA.heap.size = gs at *
    clear hWB
    have hzB := hbB.size
    obtain ⟨p1, p2, p3, p4⟩ := (HPB.out.after hbB).blk2.facts
    have hpl := (HPB.out.after hbB).lt
    obtain ⟨f0, f1, f2, f3, _, _, _, _⟩ := HFX.out.facts
    have hfl := HFX.out.lt
    obtain ⟨⟨g0, g1, g2, g3⟩, g4, g5, g6⟩ := HSB.out.facts
    cases hr : mkdirR l with
    | error fp =>
      obtain ⟨f4, p4'⟩ := fp
      have Y := Lib.hid (show instrR (init ++ [y]) (x0 :: l) kk = .error (f4, p4') by rw [HR.out, hr])
      have HVM := Lib.hid hr
      clear hr HR
      go_wp2_with (go_at_call 69; refine (mkdirP_any gp gs b (o + 2) (lw - 1) pa0 4 (-1) l wB HSB.out ((HW.out.after hbB).drop 1) HGL.out hlo hhi).mono ?_; rintro e3 w3 ⟨ho3, hb3⟩; rw [HVM.out] at ho3; obtain ⟨n6, rfl, h6, h7⟩ := ho3)
      exact ⟨rfl, instrOut_err Y.out ⟨n6, rfl, Nat.le_trans hzB h6, h7⟩, (hbB.trans (hb3.mono hzB)).mono hB, KeepY.below (hbB.trans (hb3.mono hzB))⟩
    | ok xu =>
      have HVM := Lib.hid hr
      cases hu : unsetB y.vars l with
      | some q =>
        have Y := Lib.hid (show instrR (init ++ [y]) (x0 :: l) kk = .error (7, q) by rw [HR.out, hr, hu])
        have HV := Lib.hid hu
        clear hr hu HR
        go_wp2_with (first
          | (go_at_call 69; refine (mkdirP_any gp gs b (o + 2) (lw - 1) pa0 4 (-1) l wB HSB.out ((HW.out.after hbB).drop 1) HGL.out hlo hhi).mono ?_; rintro e3 w3 ⟨ho3, hb3⟩; rw [HVM.out] at ho3; obtain rfl := ho3; have hbM := hbB.trans (hb3.mono hzB); have hzM := hbM.size; have HSM := Lib.hid (HSB.out.after hb3); obtain ⟨p1, p2, p3, p4⟩ := (HPB.out.after hbM).blk2.facts; have hpl := (HPB.out.after hbM).lt; obtain ⟨⟨g0, g1, g2, g3⟩, g4, g5, g6⟩ := HSM.out.facts)
          | (go_at_call 56; refine (knownP_any gp gb init.length c kk y.vars va (some ⟨b, o + 2, none⟩) vc l.length (lw - 1) l w3 hi ((HL.out.after hbM).varsAt (HPB.out.after hbM)) (by omega) ((HW.out.after hbM).drop 1) HGL.out rfl (by omega)).mono ?_; rintro e4 w4 ⟨ho4, hb4⟩; rw [HV.out] at ho4; obtain ⟨n6, rfl, h6, h7⟩ := ho4))
        exact ⟨rfl, instrOut_err Y.out ⟨n6, rfl, Nat.le_trans hzM h6, h7⟩, (hbM.trans (hb4.mono hzM)).mono hB, KeepY.below (hbM.trans (hb4.mono hzM))⟩
      | none =>
        have HV := Lib.hid hu
        by_cases h24 : 24 < kk + 1
        · have Y := Lib.hid (show instrR (init ++ [y]) (x0 :: l) kk = .error (10, pa0) by rw [HR.out, hr, hu]; simp only; rw [if_pos h24])
          have h24' : (24 : Int) < (kk : Int) + 1 := by omega
          clear hr hu HR
          go_wp2_with (first
            | (go_at_call 69; refine (mkdirP_any gp gs b (o + 2) (lw - 1) pa0 4 (-1) l wB HSB.out ((HW.out.after hbB).drop 1) HGL.out hlo hhi).mono ?_; rintro e3 w3 ⟨ho3, hb3⟩; rw [HVM.out] at ho3; obtain rfl := ho3; have hbM := hbB.trans (hb3.mono hzB); have hzM := hbM.size; have HSM := Lib.hid (HSB.out.after hb3); obtain ⟨p1, p2, p3, p4⟩ := (HPB.out.after hbM).blk2.facts; have hpl := (HPB.out.after hbM).lt; obtain ⟨⟨g0, g1, g2, g3⟩, g4, g5, g6⟩ := HSM.out.facts)
            | (go_at_call 56; refine (knownP_any gp gb init.length c kk y.vars va (some ⟨b, o + 2, none⟩) vc l.length (lw - 1) l w3 hi ((HL.out.after hbM).varsAt (HPB.out.after hbM)) (by omega) ((HW.out.after hbM).drop 1) HGL.out rfl (by omega)).mono ?_; rintro e4 w4 ⟨ho4, hb4⟩; rw [HV.out] at ho4; obtain rfl := ho4; have hbK : Below w.heap.size w w4 := hbM.trans (hb4.mono hzM); have HPK := Lib.hid (HPB.out.after hbK); have LRK := Lib.hid (HL.out.after hbK); have HSK := Lib.hid (HSM.out.after hb4); have HWK := Lib.hid ((HW.out.after hbK).drop 1); obtain ⟨p1, p2, p3, p4⟩ := HPK.out.blk2.facts; have hpl := HPK.out.lt; obtain ⟨⟨g0, g1, g2, g3⟩, g4, g5, g6⟩ := HSK.out.facts; obtain ⟨⟨g0, g1, g2, g3⟩, g4, g5, g6⟩ := (HSK.out.incP HPK.out.blkT (.int .i64 ((kk : Int) + 1))).facts)
            | (go_at_call 32; refine (failP_any 10 pa0 _).mono ?_; rintro e9 w9 ⟨rfl, rfl⟩))
          have hbZ : Below B w (w4.setCell ⟨gp, 1, none⟩ (.int .i64 ((kk : Int) + 1))) := Below.setCell (hbK.mono hB) hgp _
          have hsZ : w.heap.size ≤ w4.heap.size := hbK.size
          exact ⟨rfl, instrOut_err Y.out ⟨_, rfl, hsZ, heap_alloc_at _ _ _ (by simp)⟩, Below.alloc hbZ (by rw [World.size_setCell]; exact Nat.le_trans hB hsZ) _, (KeepY.incP (KeepY.below hbK) HPK.out.blkT _).trans (KeepY.below (Below.alloc (Below.refl _ _) (Nat.le_refl _) _))⟩
        · have Y := Lib.hid (show instrR (init ++ [y]) (x0 :: l) kk = .ok (init ++ [⟨y.name, y.base, y.steps ++ [⟨t0, l, -1, pa0⟩], y.vars⟩]) by rw [HR.out, hr, hu]; simp only; rw [if_neg h24])
          have h24' : decide ((24 : Int) < (kk : Int) + 1) = false := by rw [decide_eq_false_iff_not]; omega
          clear hr hu HR
          go_wp2_with (first
            | (go_at_call 69; refine (mkdirP_any gp gs b (o + 2) (lw - 1) pa0 4 (-1) l wB HSB.out ((HW.out.after hbB).drop 1) HGL.out hlo hhi).mono ?_; rintro e3 w3 ⟨ho3, hb3⟩; rw [HVM.out] at ho3; obtain rfl := ho3; have hbM := hbB.trans (hb3.mono hzB); have hzM := hbM.size; have HSM := Lib.hid (HSB.out.after hb3); obtain ⟨p1, p2, p3, p4⟩ := (HPB.out.after hbM).blk2.facts; have hpl := (HPB.out.after hbM).lt; obtain ⟨⟨g0, g1, g2, g3⟩, g4, g5, g6⟩ := HSM.out.facts)
            | (go_at_call 56; refine (knownP_any gp gb init.length c kk y.vars va (some ⟨b, o + 2, none⟩) vc l.length (lw - 1) l w3 hi ((HL.out.after hbM).varsAt (HPB.out.after hbM)) (by omega) ((HW.out.after hbM).drop 1) HGL.out rfl (by omega)).mono ?_; rintro e4 w4 ⟨ho4, hb4⟩; rw [HV.out] at ho4; obtain rfl := ho4; have hbK : Below w.heap.size w w4 := hbM.trans (hb4.mono hzM); have HPK := Lib.hid (HPB.out.after hbK); have LRK := Lib.hid (HL.out.after hbK); have HSK := Lib.hid (HSM.out.after hb4); have HWK := Lib.hid ((HW.out.after hbK).drop 1); obtain ⟨p1, p2, p3, p4⟩ := HPK.out.blk2.facts; have hpl := HPK.out.lt; obtain ⟨⟨g0, g1, g2, g3⟩, g4, g5, g6⟩ := HSK.out.facts; obtain ⟨⟨g0, g1, g2, g3⟩, g4, g5, g6⟩ := (HSK.out.incP HPK.out.blkT (.int .i64 ((kk : Int) + 1))).facts))
          have HPZ := Lib.hid (HPK.out.inc (v := (kk : Int) + 1) (by omega))
          have LRZ := Lib.hid (LRK.out.incP HPK.out.blkT (.int .i64 ((kk : Int) + 1)))
          have HSZ := Lib.hid (HSK.out.incP HPK.out.blkT (.int .i64 ((kk : Int) + 1)))
          have HWZ := Lib.hid (HWK.out.incP HPK.out.blkT (.int .i64 ((kk : Int) + 1)))
          have hbZ : Below B w (w4.setCell ⟨gp, 1, none⟩ (.int .i64 ((kk : Int) + 1))) := Below.setCell (hbK.mono hB) hgp _
          have HYZ := Lib.hid (KeepY.incP (KeepY.below hbK) HPK.out.blkT (.int .i64 ((kk : Int) + 1)))
          clear p1 p2 p3 p4 hpl g0 g1 g2 g3 g4 g5 g6
          generalize hWZ : w4.setCell ⟨gp, 1, none⟩ (.int .i64 ((kk : Int) + 1)) = wZ at *
          clear hWZ
          have hzZ := hbZ.size
          obtain ⟨p1, p2, p3, p4⟩ := HPZ.out.blk2.facts
          have hpl := HPZ.out.lt
          obtain ⟨⟨g0, g1, g2, g3⟩, g4, g5, g6⟩ := HSZ.out.facts
          obtain ⟨z1, z2, z3, z4, z5⟩ := LRZ.out.facts
          have hHZ := LRZ.out.hH
          have hzAl : ∀ n : Nat, ((wZ.drewN n).alloc (.cells #[.int .i64 4, .slice (some ⟨b, o + 2, none⟩) l.length (lw - 1), .int .i64 (-1), .int .i64 pa0] tFStep)).cell? ⟨gb, init.length * 4 + 2, none⟩ = some (.slice sa y.steps.length sc) := fun n => (World.cell?_alloc_lt _ _ _ z1).trans z2
          obtain ⟨i2, hi2, hz6, hz7, hz8⟩ := info_parts (show (Tryz.prog.info? 107).map (fun i => (i.zero, i.size, i.bytes)) = some (some (.agg #[.int .i64 0, .slice none 0 0, .int .i64 0, .int .i64 0]), 4, 48) by kernel_rfl)
          have HPZA := Lib.hid (HPZ.out.after (Below.alloc (Below.refl _ _) (Nat.le_refl _) (.cells #[.int .i64 4, .slice (some ⟨b, o + 2, none⟩) l.length (lw - 1), .int .i64 (-1), .int .i64 pa0] tFStep)))
          have LRA := Lib.hid (LRZ.out.alloc (.cells #[.int .i64 4, .slice (some ⟨b, o + 2, none⟩) l.length (lw - 1), .int .i64 (-1), .int .i64 pa0] tFStep))
          have HWA := Lib.hid (HWZ.out.after (Below.alloc (Below.refl _ _) (Nat.le_refl _) (.cells #[.int .i64 4, .slice (some ⟨b, o + 2, none⟩) l.length (lw - 1), .int .i64 (-1), .int .i64 pa0] tFStep)))
          go_region_law (first
            | (refine step_append_lies _ (by rfl) (.tmp 104) (.tmp 106) 99 (by rfl) H tFStep i2 (.agg #[.int .i64 0, .slice none 0 0, .int .i64 0, .int .i64 0]) 4 48 Tryz.underlying99 hi2 hz6 hz7 hz8 (by rfl) (by decide) (.slice sa y.steps.length sc) y.steps.length scs (by rfl) (by exact LRA.out.steps) ⟨_, 0, none⟩ 1 1 [.int .i64 4, .slice (some ⟨b, o + 2, none⟩) l.length (lw - 1), .int .i64 (-1), .int .i64 pa0] (by rfl) (by rfl) (by exact cells4_at wZ _ _ _ _ _ _ rfl) (by simp [Value.oneCell']) (by decide) (by unfold maxLen; omega) (by omega) (by simp; omega) _ (by rfl) ?_; intro g' c' w7 hown7 hgr7 _ _; have hgr8 : (wZ.alloc (.cells #[.int .i64 4, .slice (some ⟨b, o + 2, none⟩) l.length (lw - 1), .int .i64 (-1), .int .i64 pa0] tFStep)).grownBy w7 (Value.slice sa y.steps.length sc).ownBlock := ⟨hgr7.os, hgr7.tape, hgr7.output, hgr7.size, hgr7.block⟩; obtain ⟨PS, ⟨y1, y2, y3, y4, y5⟩, PP⟩ := stepPush (x := ⟨t0, l, (-1), pa0⟩) LRA.out HPZA.out HWA.out hgr8 (by rw [show kindB (StepG.op ⟨t0, l, (-1), pa0⟩) = 4 from HKD.out]; exact hown7); have PS := Lib.hid PS; have HP7 := Lib.hid PP; clear hown7 hgr7 hgr8 PP)
            | (go_simp; go_at_call 57; refine (lastP_any gp gb init.length c (kk + 1) _ hi (by first | exact HPZ.out | exact HPZA.out | exact HP7.out)).mono ?_; rintro e5 w5 ⟨rfl, q5, rfl⟩))
          all_goals
            go_wp2
            first | go_end0 | refine bodyPost_ret (results_none rfl _ _ _) rfl ?_
            obtain ⟨P1, P2, P3, P4⟩ := PS.out
            have hbW : Below B w (wZ.alloc (.cells #[.int .i64 4, .slice (some ⟨b, o + 2, none⟩) l.length (lw - 1), .int .i64 (-1), .int .i64 pa0] tFStep)) := Below.alloc hbZ (Nat.le_trans hB hzZ) _
            exact ⟨instrOut_ok Y.out rfl (by rw [List.length_append]; rfl) P4 P1, hbW.trans P3, (KeepY.trans HYZ.out (KeepY.below (Below.alloc (Below.refl _ _) (Nat.le_refl _) _))).trans (KeepY.of _ _ P2)⟩
end Go.Proofs.YtflggoddfjmljaaGreatDoor
