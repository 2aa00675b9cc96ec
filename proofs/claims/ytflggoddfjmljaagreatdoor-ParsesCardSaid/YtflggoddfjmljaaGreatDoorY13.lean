/-
  The program's own parser: an instruction: the walk: FROM.
  The program's own parser: an instruction: the walk: a step more in memory.
-/
import Derived.Deep.RegionHeld3
import Derived.Test.YtflggoddfjmljaaGreatDoorY09
import Derived.Test.YtflggoddfjmljaaGreatDoorY12
set_option linter.unusedVariables false
set_option linter.unusedSimpArgs false
namespace Go.Proofs.YtflggoddfjmljaaGreatDoor
open Go.RowKit

theorem PB.inc {w : World} {gp : Nat} {ao : Option Addr} {n c k : Nat} (h : PB w gp ao n c k) {v : Int} (hv : v = ((k + 1 : Nat) : Int)) : PB (w.setCell ⟨gp, 1, none⟩ (.int .i64 v)) gp ao n c (k + 1) := by
  subst hv; exact heap_setCell_same w gp 1 _ _ _ h
theorem PB.blkT {w : World} {gp : Nat} {ao : Option Addr} {n c k : Nat} (h : PB w gp ao n c k) : BlkT w gp tParser := ⟨_, h⟩
theorem FStagesR.incP {B gp : Nat} {w : World} {st : List StageG} {ao : Option Addr} {c : Nat} (h : FStagesR B w st ao c) (hb : BlkT w gp tParser) (v : Value) : FStagesR B (w.setCell ⟨gp, 1, none⟩ v) st ao c :=
  h.keep (KeepT.setT hb (by decide) _ _) (KeepT.setT hb (by decide) _ _) (KeepT.setT hb (by decide) _ _) (KeepT.setT hb (by decide) _ _) (KeepT.setT hb (by decide) _ _) (by simp)
theorem SBlk.incP {w : World} {gs gp : Nat} {kd : Int} {A : Option Addr} {n c : Nat} {k : Int} {p : Nat} (h : SBlk w gs kd A n c k p) (hb : BlkT w gp tParser) (v : Value) : SBlk (w.setCell ⟨gp, 1, none⟩ v) gs kd A n c k p := h.keep (KeepT.setT hb (by decide) _ _)
theorem KeepY.incP {w w' : World} {gp : Nat} (h : KeepY w w') (hb : BlkT w' gp tParser) (v : Value) : KeepY w (w'.setCell ⟨gp, 1, none⟩ v) := fun T a b c d => (h T a b c d).trans (KeepT.setT hb (fun e => d e.symm) _ _)

set_option maxRecDepth 100000 in
set_option maxHeartbeats 16000000 in
theorem instrP_from (st : List StageG) (x0 : WordG) (l : List WordG) (B gp b o lw c kk : Nat) (ao : Option Addr) (w : World) (h5 : st.length ≤ 5) (hbd : StB 50 st) (hk24 : kk ≤ 24) (hp : PB w gp ao st.length c kk) (hst : FStagesR B w st ao c) (hB : B ≤ w.heap.size) (hgp : B ≤ gp) (hord : Ord w)
    (hw : FWordsR w (some ⟨b, o, none⟩) (x0 :: l)) (hg : GoodW (x0 :: l)) (hl4 : l.length + 1 ≤ 2000) (hlc : l.length + 1 ≤ lw) (hlm : lw ≤ maxLen) (ht : x0.text = wFROM) (hlo : 1 ≤ l.length) (hhi : l.length ≤ 3) :
    Calls Tryz.prog 34 #[.pointer (some ⟨gp, 0, none⟩), .slice (some ⟨b, o, none⟩) (l.length + 1) lw] w fun e w' => instrOut B gp kk w w' e (instrR st (x0 :: l) kk) ∧ Below B w w' ∧ KeepY w w' := by
  have HPB := Lib.hid hp
  have HST := Lib.hid hst
  have HW := Lib.hid hw
  have HGL := Lib.hid (show GoodW l from fun x hx => hg x (List.mem_cons_of_mem _ hx))
  have HO := Lib.hid hord
  obtain ⟨fa, fc, hb, m1, m2, ho⟩ := hw.one (k := 0) (by simp)
  rw [Nat.zero_mul, Nat.add_zero] at m1 m2
  rw [show nth (x0 :: l) 0 = x0 from rfl] at m1 m2 ho
  have hgx : GoodA x0.l ∧ x0.l.length ≤ 2000 := hg x0 (by simp)
  have HPl := Lib.hid (show ∀ wx : World, Below w.heap.size w wx → Calls Tryz.prog 53 #[.agg #[.slice fa x0.pl.length fc, .int .i64 x0.at_]] wx fun e w' => e = .returned (.tuple #[.string (S x0.text), .bool x0.flat]) ∧ Below wx.heap.size wx w' from
    fun wx hb => plainW_any x0 fa fc 0 _ wx hgx.1 hgx.2 rfl (ownsRow_below ho hb))
  have hl0 : (0 : Int) < (l.length : Int) + 1 := by omega
  have hl1' : (1 : Int) ≤ (l.length : Int) + 1 := by omega
  have hlc' : (l.length : Int) + 1 ≤ (lw : Int) := by omega
  have hlw : ¬ lw = 1 := by omega
  obtain ⟨hf1, hf2, hf3, hfv, _⟩ := form_FROM
  rw [← ht] at hf1 hf2 hf3
  have hr0 := instrR_from (st := st) (ws := x0 :: l) (n := kk) hf3 (by rintro (h | h | h); exact h.2 ht; simp at h; omega; simp at h; omega) ht
  rw [fromR_same] at hr0
  have HR := Lib.hid (show instrR st (x0 :: l) kk = (match fromR st l x0.at_ with | .error f => .error f | .ok st' => if 24 < kk + 1 then .error (10, x0.at_) else .ok st') from hr0)
  have HFR := Lib.hid hf1
  have HKD := Lib.hid hf2
  clear hf1 hf2 hf3 ht hr0
  clear hp hst hw hg hord ho hgx
  generalize x0.text = t0 at *
  generalize x0.pl.length = q0 at *
  generalize x0.at_ = pa0 at *
  generalize x0.flat = fl0 at *
  have hk0 : kk + 1 ≤ 9223372036854775807 := by omega
  have hk0' : (kk : Int) + 1 = ((kk + 1 : Nat) : Int) := by omega
  have hlo2 : decide (l.length < 1) = false := by rw [decide_eq_false_iff_not]; omega
  have hhi2 : decide (3 < l.length) = false := by rw [decide_eq_false_iff_not]; omega
  have hlo3 : ¬ l.length < 1 := by omega
  have hhi3 : ¬ 3 < l.length := by omega
  clear hk0'
  have hnf : ∀ w : World, (binOp .neq 133 (.func (Fn.func 67) #[] #[]) .nilFunc).run Tryz.prog w = .ok (.bool true) w := fun _ => by kernel_rfl
  by_cases hst0 : st.length = 0
  · have hs0 : ((st.length : Int) == 0) = true := by rw [beq_iff_eq]; omega
    clear hst0
    go_enter Tryz.func34, Tryz.ntmps34
    go_wp2_with (first
      | (go_at_call 53; refine (HPl.out _ (Below.refl _ _)).mono ?_; rintro e1 w1 ⟨rfl, hb1⟩; have hO1 := Lib.hid (HO.out.after hb1))
      | (go_at_call 54; refine (formOfP_any t0 _ hO1.out).mono ?_; rintro e2 w2 ⟨rfl, hb2⟩; rw [HFR.out]; have hb12 := hb1.trans (hb2.mono hb1.size)))
    have hbA : Below w.heap.size w (w2.alloc (.cells #[.string (S t0), .int .i64 1, .int .i64 3, .func (Fn.func 67) #[] #[]] tForm)) := hb12.alloc hb12.size _
    have HFB := Lib.hid (Blk4.new w2 (.string (S t0)) (.int .i64 1) (.int .i64 3) (.func (Fn.func 67) #[] #[]) tForm)
    have hgf : w.heap.size ≤ w2.heap.size := hb12.size
    generalize hWA : w2.alloc (.cells #[.string (S t0), .int .i64 1, .int .i64 3, .func (Fn.func 67) #[] #[]] tForm) = wA at *
    generalize w2.heap.size = gf at *
    clear hWA hb12 hb1 hb2 hO1
    have k2A := Below.cellAt hbA hb m2
    have hOA := Lib.hid (HO.out.after hbA)
    have hzA := hbA.size
    obtain ⟨p1, p2, p3, p4⟩ := (HPB.out.after (belowDrew hbA)).blk2.facts
    have hpl := (HPB.out.after hbA).lt
    obtain ⟨f0, f1, f2, f3, _, _, _, _⟩ := HFB.out.facts
    have hfl := HFB.out.lt
    have hpA : wA.cell? ⟨gp, 0, none⟩ = some (.slice ao st.length c) := (HPB.out.after hbA).blk2.facts.1
    go_region_held3 (fun w' => w'.cell? ⟨b, o + 1, none⟩ = some (.int .i64 pa0)) (go_keep) (first | (go_at_call 55; refine (indexOrd_any t0 _ (by first | exact hOA.out.after (belowDrew (Below.refl _ _)) | exact hOA.out.after (belowDrew (Below.alloc (Below.refl _ _) (Nat.le_refl _) _)))).mono ?_; rintro e3 w3 ⟨rfl, rfl⟩; rw [HKD.out]))
    all_goals
      have hbB : Below w.heap.size w (wA.alloc (.cells #[.int .i64 0, .slice (some ⟨b, o + 2, none⟩) l.length (lw - 1), .int .i64 (-1), .int .i64 pa0] tFStep)).drew := belowDrew (hbA.alloc hzA _)
      have HSB := Lib.hid (show SBlk (wA.alloc (.cells #[.int .i64 0, .slice (some ⟨b, o + 2, none⟩) l.length (lw - 1), .int .i64 (-1), .int .i64 pa0] tFStep)).drew wA.heap.size 0 (some ⟨b, o + 2, none⟩) l.length (lw - 1) (-1) pa0 from ⟨heap_alloc_new wA _⟩)
      have HFX := Lib.hid (Blk4.drew (HFB.out.alloc' (.cells #[.int .i64 0, .slice (some ⟨b, o + 2, none⟩) l.length (lw - 1), .int .i64 (-1), .int .i64 pa0] tFStep)))
      have hgs : w.heap.size ≤ wA.heap.size := hzA
      clear f0 f1 f2 f3 hfl p1 p2 p3 p4 hpl hpA k2A
      generalize hWB : (wA.alloc (.cells #[.int .i64 0, .slice (some ⟨b, o + 2, none⟩) l.length (lw - 1), .int .i64 (-1), .int .i64 pa0] tFStep)).drew = wB at *
      generalize wA.heap.size = gs at *
      clear hWB
      have hzB := hbB.size
      obtain ⟨p1, p2, p3, p4⟩ := (HPB.out.after hbB).blk2.facts
      have hpl := (HPB.out.after hbB).lt
      obtain ⟨f0, f1, f2, f3, _, _, _, _⟩ := HFX.out.facts
      have hfl := HFX.out.lt
      obtain ⟨⟨g0, g1, g2, g3⟩, g4, g5, g6⟩ := HSB.out.facts
      cases hr : fromR st l pa0 with
      | error fp =>
        obtain ⟨f4, p4'⟩ := fp
        have Y := Lib.hid (show instrR st (x0 :: l) kk = .error (f4, p4') by rw [HR.out, hr])
        have HV := Lib.hid hr
        clear hr HR
        go_wp2_with (go_at_call 67; refine (fromP_any st l B gp gs b (o + 2) (lw - 1) pa0 c kk 0 (-1) ao wB h5 (fun x hx => by have := (hbd x hx).1; omega) (HPB.out.after hbB) (HST.out.after hbB) (Nat.le_trans hB hzB) hgp HSB.out ((HW.out.after hbB).drop 1) HGL.out hlo hhi (by omega) (by omega)).mono ?_; rintro e4 w4 ⟨ho4, hb4, hy4⟩; rw [HV.out] at ho4; obtain ⟨n6, rfl, h6, h7⟩ := ho4)
        exact ⟨rfl, instrOut_err Y.out ⟨n6, rfl, Nat.le_trans hzB h6, h7⟩, (hbB.mono hB).trans hb4, (KeepY.below hbB).trans hy4⟩
      | ok st' =>
        have HV := Lib.hid hr
        by_cases h24 : 24 < kk + 1
        · have Y := Lib.hid (show instrR st (x0 :: l) kk = .error (10, pa0) by rw [HR.out, hr]; simp only; rw [if_pos h24])
          have h24' : (24 : Int) < (kk : Int) + 1 := by omega
          clear hr HR
          go_wp2_with (first
            | (go_at_call 67; refine (fromP_any st l B gp gs b (o + 2) (lw - 1) pa0 c kk 0 (-1) ao wB h5 (fun x hx => by have := (hbd x hx).1; omega) (HPB.out.after hbB) (HST.out.after hbB) (Nat.le_trans hB hzB) hgp HSB.out ((HW.out.after hbB).drop 1) HGL.out hlo hhi (by omega) (by omega)).mono ?_; rintro e4 w4 ⟨ho4, hb4, hy4⟩; rw [HV.out] at ho4; obtain ⟨rfl, hs4, ao4, c4, hp4, hst4⟩ := ho4; have HP4 := Lib.hid hp4; have HS4 := Lib.hid hs4; have HT4 := Lib.hid hst4; obtain ⟨p1, p2, p3, p4⟩ := hp4.blk2.facts; have hpl := hp4.lt; obtain ⟨⟨g0, g1, g2, g3⟩, g4, g5, g6⟩ := hs4.facts; obtain ⟨⟨g0, g1, g2, g3⟩, g4, g5, g6⟩ := (hs4.incP hp4.blkT (.int .i64 ((kk : Int) + 1))).facts; clear hp4 hs4 hst4)
            | (go_at_call 32; refine (failP_any 10 pa0 _).mono ?_; rintro e9 w9 ⟨rfl, rfl⟩))
          have hbZ : Below B w (w4.setCell ⟨gp, 1, none⟩ (.int .i64 ((kk : Int) + 1))) := Below.setCell ((hbB.mono hB).trans hb4) hgp _
          have hsZ : w.heap.size ≤ w4.heap.size := Nat.le_trans hzB hb4.size
          exact ⟨rfl, instrOut_err Y.out ⟨_, rfl, hsZ, heap_alloc_at _ _ _ (by simp)⟩, Below.alloc hbZ (by rw [World.size_setCell]; exact Nat.le_trans hB hsZ) _, (KeepY.incP ((KeepY.below hbB).trans hy4) HP4.out.blkT _).trans (KeepY.below (Below.alloc (Below.refl _ _) (Nat.le_refl _) _))⟩
        · have Y := Lib.hid (show instrR st (x0 :: l) kk = .ok st' by rw [HR.out, hr]; simp only; rw [if_neg h24])
          have h24' : decide ((24 : Int) < (kk : Int) + 1) = false := by rw [decide_eq_false_iff_not]; omega
          clear hr HR
          go_wp2_with (go_at_call 67; refine (fromP_any st l B gp gs b (o + 2) (lw - 1) pa0 c kk 0 (-1) ao wB h5 (fun x hx => by have := (hbd x hx).1; omega) (HPB.out.after hbB) (HST.out.after hbB) (Nat.le_trans hB hzB) hgp HSB.out ((HW.out.after hbB).drop 1) HGL.out hlo hhi (by omega) (by omega)).mono ?_; rintro e4 w4 ⟨ho4, hb4, hy4⟩; rw [HV.out] at ho4; obtain ⟨rfl, hs4, ao4, c4, hp4, hst4⟩ := ho4; have HP4 := Lib.hid hp4; have HS4 := Lib.hid hs4; have HT4 := Lib.hid hst4; obtain ⟨p1, p2, p3, p4⟩ := hp4.blk2.facts; have hpl := hp4.lt; obtain ⟨⟨g0, g1, g2, g3⟩, g4, g5, g6⟩ := hs4.facts; obtain ⟨⟨g0, g1, g2, g3⟩, g4, g5, g6⟩ := (hs4.incP hp4.blkT (.int .i64 ((kk : Int) + 1))).facts; clear hp4 hs4 hst4)
          first | go_end0 | refine bodyPost_ret (results_none rfl _ _ _) rfl ?_
          exact ⟨instrOut_ok Y.out rfl rfl (HP4.out.inc (by omega)) (HT4.out.incP HP4.out.blkT _), Below.setCell ((hbB.mono hB).trans hb4) hgp _, KeepY.incP ((KeepY.below hbB).trans hy4) HP4.out.blkT _⟩
  · have hs0 : ((st.length : Int) == 0) = false := by rw [beq_eq_false_iff_ne]; omega
    clear hst0
    go_enter Tryz.func34, Tryz.ntmps34
    go_wp2_with (first
      | (go_at_call 53; refine (HPl.out _ (Below.refl _ _)).mono ?_; rintro e1 w1 ⟨rfl, hb1⟩; have hO1 := Lib.hid (HO.out.after hb1))
      | (go_at_call 54; refine (formOfP_any t0 _ hO1.out).mono ?_; rintro e2 w2 ⟨rfl, hb2⟩; rw [HFR.out]; have hb12 := hb1.trans (hb2.mono hb1.size)))
    have hbA : Below w.heap.size w (w2.alloc (.cells #[.string (S t0), .int .i64 1, .int .i64 3, .func (Fn.func 67) #[] #[]] tForm)) := hb12.alloc hb12.size _
    have HFB := Lib.hid (Blk4.new w2 (.string (S t0)) (.int .i64 1) (.int .i64 3) (.func (Fn.func 67) #[] #[]) tForm)
    have hgf : w.heap.size ≤ w2.heap.size := hb12.size
    generalize hWA : w2.alloc (.cells #[.string (S t0), .int .i64 1, .int .i64 3, .func (Fn.func 67) #[] #[]] tForm) = wA at *
    generalize w2.heap.size = gf at *
    clear hWA hb12 hb1 hb2 hO1
    have k2A := Below.cellAt hbA hb m2
    have hOA := Lib.hid (HO.out.after hbA)
    have hzA := hbA.size
    obtain ⟨p1, p2, p3, p4⟩ := (HPB.out.after (belowDrew hbA)).blk2.facts
    have hpl := (HPB.out.after hbA).lt
    obtain ⟨f0, f1, f2, f3, _, _, _, _⟩ := HFB.out.facts
    have hfl := HFB.out.lt
    have hpA : wA.cell? ⟨gp, 0, none⟩ = some (.slice ao st.length c) := (HPB.out.after hbA).blk2.facts.1
    go_region_held3 (fun w' => w'.cell? ⟨b, o + 1, none⟩ = some (.int .i64 pa0)) (go_keep) (first | (go_at_call 55; refine (indexOrd_any t0 _ (by first | exact hOA.out.after (belowDrew (Below.refl _ _)) | exact hOA.out.after (belowDrew (Below.alloc (Below.refl _ _) (Nat.le_refl _) _)))).mono ?_; rintro e3 w3 ⟨rfl, rfl⟩; rw [HKD.out]))
    all_goals
      have hbB : Below w.heap.size w (wA.alloc (.cells #[.int .i64 0, .slice (some ⟨b, o + 2, none⟩) l.length (lw - 1), .int .i64 (-1), .int .i64 pa0] tFStep)).drew := belowDrew (hbA.alloc hzA _)
      have HSB := Lib.hid (show SBlk (wA.alloc (.cells #[.int .i64 0, .slice (some ⟨b, o + 2, none⟩) l.length (lw - 1), .int .i64 (-1), .int .i64 pa0] tFStep)).drew wA.heap.size 0 (some ⟨b, o + 2, none⟩) l.length (lw - 1) (-1) pa0 from ⟨heap_alloc_new wA _⟩)
      have HFX := Lib.hid (Blk4.drew (HFB.out.alloc' (.cells #[.int .i64 0, .slice (some ⟨b, o + 2, none⟩) l.length (lw - 1), .int .i64 (-1), .int .i64 pa0] tFStep)))
      have hgs : w.heap.size ≤ wA.heap.size := hzA
      clear f0 f1 f2 f3 hfl p1 p2 p3 p4 hpl hpA k2A
      generalize hWB : (wA.alloc (.cells #[.int .i64 0, .slice (some ⟨b, o + 2, none⟩) l.length (lw - 1), .int .i64 (-1), .int .i64 pa0] tFStep)).drew = wB at *
      generalize wA.heap.size = gs at *
      clear hWB
      have hzB := hbB.size
      obtain ⟨p1, p2, p3, p4⟩ := (HPB.out.after hbB).blk2.facts
      have hpl := (HPB.out.after hbB).lt
      obtain ⟨f0, f1, f2, f3, _, _, _, _⟩ := HFX.out.facts
      have hfl := HFX.out.lt
      obtain ⟨⟨g0, g1, g2, g3⟩, g4, g5, g6⟩ := HSB.out.facts
      cases hr : fromR st l pa0 with
      | error fp =>
        obtain ⟨f4, p4'⟩ := fp
        have Y := Lib.hid (show instrR st (x0 :: l) kk = .error (f4, p4') by rw [HR.out, hr])
        have HV := Lib.hid hr
        clear hr HR
        go_wp2_with (go_at_call 67; refine (fromP_any st l B gp gs b (o + 2) (lw - 1) pa0 c kk 0 (-1) ao wB h5 (fun x hx => by have := (hbd x hx).1; omega) (HPB.out.after hbB) (HST.out.after hbB) (Nat.le_trans hB hzB) hgp HSB.out ((HW.out.after hbB).drop 1) HGL.out hlo hhi (by omega) (by omega)).mono ?_; rintro e4 w4 ⟨ho4, hb4, hy4⟩; rw [HV.out] at ho4; obtain ⟨n6, rfl, h6, h7⟩ := ho4)
        exact ⟨rfl, instrOut_err Y.out ⟨n6, rfl, Nat.le_trans hzB h6, h7⟩, (hbB.mono hB).trans hb4, (KeepY.below hbB).trans hy4⟩
      | ok st' =>
        have HV := Lib.hid hr
        by_cases h24 : 24 < kk + 1
        · have Y := Lib.hid (show instrR st (x0 :: l) kk = .error (10, pa0) by rw [HR.out, hr]; simp only; rw [if_pos h24])
          have h24' : (24 : Int) < (kk : Int) + 1 := by omega
          clear hr HR
          go_wp2_with (first
            | (go_at_call 67; refine (fromP_any st l B gp gs b (o + 2) (lw - 1) pa0 c kk 0 (-1) ao wB h5 (fun x hx => by have := (hbd x hx).1; omega) (HPB.out.after hbB) (HST.out.after hbB) (Nat.le_trans hB hzB) hgp HSB.out ((HW.out.after hbB).drop 1) HGL.out hlo hhi (by omega) (by omega)).mono ?_; rintro e4 w4 ⟨ho4, hb4, hy4⟩; rw [HV.out] at ho4; obtain ⟨rfl, hs4, ao4, c4, hp4, hst4⟩ := ho4; have HP4 := Lib.hid hp4; have HS4 := Lib.hid hs4; have HT4 := Lib.hid hst4; obtain ⟨p1, p2, p3, p4⟩ := hp4.blk2.facts; have hpl := hp4.lt; obtain ⟨⟨g0, g1, g2, g3⟩, g4, g5, g6⟩ := hs4.facts; obtain ⟨⟨g0, g1, g2, g3⟩, g4, g5, g6⟩ := (hs4.incP hp4.blkT (.int .i64 ((kk : Int) + 1))).facts; clear hp4 hs4 hst4)
            | (go_at_call 32; refine (failP_any 10 pa0 _).mono ?_; rintro e9 w9 ⟨rfl, rfl⟩))
          have hbZ : Below B w (w4.setCell ⟨gp, 1, none⟩ (.int .i64 ((kk : Int) + 1))) := Below.setCell ((hbB.mono hB).trans hb4) hgp _
          have hsZ : w.heap.size ≤ w4.heap.size := Nat.le_trans hzB hb4.size
          exact ⟨rfl, instrOut_err Y.out ⟨_, rfl, hsZ, heap_alloc_at _ _ _ (by simp)⟩, Below.alloc hbZ (by rw [World.size_setCell]; exact Nat.le_trans hB hsZ) _, (KeepY.incP ((KeepY.below hbB).trans hy4) HP4.out.blkT _).trans (KeepY.below (Below.alloc (Below.refl _ _) (Nat.le_refl _) _))⟩
        · have Y := Lib.hid (show instrR st (x0 :: l) kk = .ok st' by rw [HR.out, hr]; simp only; rw [if_neg h24])
          have h24' : decide ((24 : Int) < (kk : Int) + 1) = false := by rw [decide_eq_false_iff_not]; omega
          clear hr HR
          go_wp2_with (go_at_call 67; refine (fromP_any st l B gp gs b (o + 2) (lw - 1) pa0 c kk 0 (-1) ao wB h5 (fun x hx => by have := (hbd x hx).1; omega) (HPB.out.after hbB) (HST.out.after hbB) (Nat.le_trans hB hzB) hgp HSB.out ((HW.out.after hbB).drop 1) HGL.out hlo hhi (by omega) (by omega)).mono ?_; rintro e4 w4 ⟨ho4, hb4, hy4⟩; rw [HV.out] at ho4; obtain ⟨rfl, hs4, ao4, c4, hp4, hst4⟩ := ho4; have HP4 := Lib.hid hp4; have HS4 := Lib.hid hs4; have HT4 := Lib.hid hst4; obtain ⟨p1, p2, p3, p4⟩ := hp4.blk2.facts; have hpl := hp4.lt; obtain ⟨⟨g0, g1, g2, g3⟩, g4, g5, g6⟩ := hs4.facts; obtain ⟨⟨g0, g1, g2, g3⟩, g4, g5, g6⟩ := (hs4.incP hp4.blkT (.int .i64 ((kk : Int) + 1))).facts; clear hp4 hs4 hst4)
          first | go_end0 | refine bodyPost_ret (results_none rfl _ _ _) rfl ?_
          exact ⟨instrOut_ok Y.out rfl rfl (HP4.out.inc (by omega)) (HT4.out.incP HP4.out.blkT _), Below.setCell ((hbB.mono hB).trans hb4) hgp _, KeepY.incP ((KeepY.below hbB).trans hy4) HP4.out.blkT _⟩
end Go.Proofs.YtflggoddfjmljaaGreatDoor
namespace Go.Proofs.YtflggoddfjmljaaGreatDoor
open Go.RowKit

theorem FLastR.keep {B H : Nat} {w w' : World} {init : List StageG} {y : StageG} {gb c : Nat} {cs0 : List Value} {sv vv : Value} {scs : List Value} (h : FLastR B H w init y gb c cs0 sv vv scs) (h1 : KeepT tFStage w w') (h2 : KeepT tFStep w w') (h3 : KeepT tText w w') (h4 : KeepT tFWord w w') (h5 : KeepT tPiece w w') (hs : w.heap.size ≤ w'.heap.size) : FLastR B H w' init y gb c cs0 sv vv scs :=
  ⟨ownsRow_keep h.own h1, h.ini.stays h4 h5 (fun g cur _ e => h2 g cur e) (fun g cur _ e => h3 g cur e), ownsRow_keep h.steps h2, h.cells.keep h4 h5, ownsRow_keep h.vars h3, Nat.le_trans h.hH hs, h.hB⟩
theorem KeepT.like {T : TypeId} {w x y : World} (h : KeepT T w x) (e : y.heap = x.heap) : KeepT T w y := fun g cur k => by rw [e]; exact h g cur k
theorem FLastR.like {B H : Nat} {w w' : World} {init : List StageG} {y : StageG} {gb c : Nat} {cs0 : List Value} {sv vv : Value} {scs : List Value} (h : FLastR B H w init y gb c cs0 sv vv scs) (e : w'.heap = w.heap) : FLastR B H w' init y gb c cs0 sv vv scs :=
  h.keep ((KeepT.refl _ _).like e) ((KeepT.refl _ _).like e) ((KeepT.refl _ _).like e) ((KeepT.refl _ _).like e) ((KeepT.refl _ _).like e) (by rw [e]; exact Nat.le_refl _)
theorem FWordsR.like {w w' : World} {A : Option Addr} {ws : List WordG} (h : FWordsR w A ws) (e : w'.heap = w.heap) : FWordsR w' A ws := h.keep ((KeepT.refl _ _).like e) ((KeepT.refl _ _).like e)
theorem PB.like {w w' : World} {gp : Nat} {ao : Option Addr} {n c k : Nat} (h : PB w gp ao n c k) (e : w'.heap = w.heap) : PB w' gp ao n c k := by unfold PB; rw [e]; exact h
theorem belowLike {B : Nat} {w x y : World} (h : Below B w x) (e1 : y.os = x.os) (e2 : y.tape = x.tape) (e3 : y.output = x.output) (e : y.heap = x.heap) : Below B w y := ⟨e1.trans h.os, e2.trans h.tape, e3.trans h.output, by rw [e]; exact h.size, fun k hk => by rw [e]; exact h.block k hk⟩
theorem KeepY.like {w x y : World} (h : KeepY w x) (e : y.heap = x.heap) : KeepY w y := fun T a b c d => (h T a b c d).like e
theorem FLastR.incP {B H gp : Nat} {w : World} {init : List StageG} {y : StageG} {gb c : Nat} {cs0 : List Value} {sv vv : Value} {scs : List Value} (h : FLastR B H w init y gb c cs0 sv vv scs) (hb : BlkT w gp tParser) (v : Value) : FLastR B H (w.setCell ⟨gp, 1, none⟩ v) init y gb c cs0 sv vv scs :=
  h.keep (KeepT.setT hb (by decide) _ _) (KeepT.setT hb (by decide) _ _) (KeepT.setT hb (by decide) _ _) (KeepT.setT hb (by decide) _ _) (KeepT.setT hb (by decide) _ _) (by simp)
theorem FWordsR.incP {gp : Nat} {w : World} {A : Option Addr} {ws : List WordG} (h : FWordsR w A ws) (hb : BlkT w gp tParser) (v : Value) : FWordsR (w.setCell ⟨gp, 1, none⟩ v) A ws := h.keep (KeepT.setT hb (by decide) _ _) (KeepT.setT hb (by decide) _ _)
/-- a step's push, all that follows from it -/
theorem stepPush {B H gb c gp kk d : Nat} {w w2 : World} {init : List StageG} {y : StageG} {cs0 : List Value} {sv vv sv' : Value} {scs : List Value} {x : StepG} {A : Option Addr} (h : FLastR B H w init y gb c cs0 sv vv scs)
    (hp : PB w gp (some ⟨gb, 0, none⟩) (init.length + 1) c kk) (hx : FWordsR w A x.words) (hg : w.grownBy w2 sv.ownBlock)
    (hown : w2.ownsRow H tFStep 4 sv' (y.steps.length + 1) (scs ++ [.int .i64 (kindB x.op), .slice A x.words.length d, .int .i64 x.stage, .int .i64 x.at_])) :
    (FStagesR B (w2.setCell ⟨gb, init.length * 4 + 2, none⟩ sv') (init ++ [⟨y.name, y.base, y.steps ++ [x], y.vars⟩]) (some ⟨gb, 0, none⟩) c ∧ FKeepX w (w2.setCell ⟨gb, init.length * 4 + 2, none⟩ sv') ∧ Below B w (w2.setCell ⟨gb, init.length * 4 + 2, none⟩ sv')
      ∧ PB (w2.setCell ⟨gb, init.length * 4 + 2, none⟩ sv') gp (some ⟨gb, 0, none⟩) (init.length + 1) c kk) ∧
    (gb < w2.heap.size ∧ w2.cell? ⟨gb, init.length * 4 + 2, none⟩ = some sv ∧ w2.cell? ⟨gb, init.length * 4 + 3, none⟩ = some vv ∧ w2.frozen? ⟨gb, init.length * 4 + 2, none⟩ = false ∧ w2.frozen? ⟨gb, init.length * 4 + 3, none⟩ = false) ∧ PB w2 gp (some ⟨gb, 0, none⟩) (init.length + 1) c kk := by
  obtain ⟨scs', h1, h2, h3⟩ := h.pushStep hx hg hown
  have hT : ∀ T, T ≠ tFStep → KeepT T w w2 := fun T hne => KeepT.grown hg h.steps (fun e => hne e.symm)
  exact ⟨⟨h1.stages, h2, h3, hp.keep (h2 _ (by decide) (by decide) (by decide))⟩, FrowFacts (ownsRow_keep h.own (hT _ (by decide))) h.ini.len, hp.keep (hT _ (by decide))⟩
end Go.Proofs.YtflggoddfjmljaaGreatDoor
