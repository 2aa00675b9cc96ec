/-
  The document's answer: the one form of a build file: the walk.
  The document's answer: a word: the walk.
  The document's answer: a line: the walk.
-/
import Derived.Deep.RegionWith
import Derived.Deep.RegionLaw
import Derived.Deep.AppendLies
import Derived.Test.YtflggoddfjmljaaGreatDoorY01
import Derived.Test.YtflggoddfjmljaaGreatDoorY02
import Derived.Test.YtflggoddfjmljaaGreatDoorY05
import Derived.Test.YtflggoddfjmljaaGreatDoorY21
set_option linter.unusedVariables false
set_option linter.unusedSimpArgs false
namespace Go.Proofs.YtflggoddfjmljaaGreatDoor
open Go.RowKit

theorem stageT_take {st : List StageG} {i : Nat} (h : i < st.length) : (st.take (i + 1)).flatMap (stageT st) = (st.take i).flatMap (stageT st) ++ (stageHeadT st st[i] ++ st[i].steps.flatMap (stepT st)) := flatMap_take (stageT st) st i h
theorem stepT_take {st : List StageG} {l : List StepG} {k : Nat} (h : k < l.length) : (l.take (k + 1)).flatMap (stepT st) = (l.take k).flatMap (stepT st) ++ (stepHeadT st l[k] ++ wordsT l[k].words ++ [10]) := flatMap_take (stepT st) l k h
theorem wordsT_take {ws : List WordG} {k : Nat} (h : k < ws.length) : wordsT (ws.take (k + 1)) = wordsT (ws.take k) ++ (32 :: formB ws[k]) := flatMap_take (fun w : WordG => 32 :: formB w) ws k h

set_option maxRecDepth 100000 in
set_option maxHeartbeats 8000000 in
theorem textR_any (st : List StageG) (B n c : Nat) (ao : Option Addr) (w : World) (hn : st.length = n) (hst : StagesR B w st ao c) (hok : FileOk st) (ht : FileT st) :
    Calls Tryz.prog 6 #[.slice ao n c] w fun e w' => e = .returned (.string (S (textB st))) ∧ Below w.heap.size w w' := by
  subst hn
  have HST := Lib.hid hst
  have HOK := Lib.hid hok
  have HT := Lib.hid ht
  clear hst hok ht
  have h5 := HOK.out.h5
  go_enter Tryz.func6, Tryz.ntmps6
  go_wp2
  rw [show (ByteArray.mk #[]) = S [] from rfl]
  go_loopw [3, 4] (fun v x wr => ∃ i : Nat, i ≤ st.length ∧ x = .int .i64 i ∧ v = .string (S ((st.take i).flatMap (stageT st))) ∧ Below w.heap.size w wr) (fun _ x _ => st.length - (intOf x).toNat)
  case atStart => exact ⟨0, by omega, by go_num, rfl, Below.refl _ _⟩
  case round =>
    obtain ⟨i, hi, rfl, rfl, hbel⟩ := hrel
    have HL := textB_len HT.out HOK.out.bd h5 i
    by_cases hlt : i < st.length
    · obtain ⟨sb, so, sa, sc, va, vc, rfl, hsb, m1, m2, m3, m4, ⟨scs, hss, hsc⟩⟩ := HST.out.get hlt
      replace m1 := (hbel.cell (p := ⟨sb, so + i * 4, none⟩) hsb).trans m1
      replace m2 := (hbel.cell (p := ⟨sb, so + i * 4 + 1, none⟩) hsb).trans m2
      have m3' := (hbel.cell (p := ⟨sb, so + i * 4 + 2, none⟩) hsb).trans m3
      have HSR := Lib.hid (RdT.of_own hss).rd
      have HSC := Lib.hid hsc
      have HM := Lib.hid m3
      have HX := Lib.hid (HT.out st[i] (List.getElem_mem hlt))
      have hs24 : st[i].steps.length ≤ 24 := (HOK.out.bd _ (List.getElem_mem hlt)).2
      have HWF := Lib.hid (HOK.out.wf i hlt)
      have hbs : st[i].base < (st.length : Int) := by have := HWF.out.1; omega
      have HTk := Lib.hid (stageT_take hlt)
      have hnl := HX.out.1
      have hil : (i : Int) < (st.length : Int) := by omega
      have htl := titleB_len HT.out st[i].base
      have HHl := Lib.hid (stageHeadT_len HX.out HT.out)
      clear hss hsc m3 m4
      obtain ⟨acc, hacc⟩ : ∃ a, a = (st.take i).flatMap (stageT st) := ⟨_, rfl⟩
      rw [← hacc] at HL HTk ⊢
      have HA := Lib.hid hacc
      clear hacc
      have hways : st[i].name = [] ∨ st[i].name ≠ [] := by by_cases h : st[i].name = []; exact .inl h; exact .inr h
      rcases hways with hn0 | hn0
      all_goals first
        | (have hn1 : (st[i].name == []) = true := by (rw [hn0]; rfl)
           have HH := Lib.hid (show stageHeadT st st[i] = wFROMS ++ titleB st st[i].base ++ [10] by unfold stageHeadT; rw [if_pos hn0]; simp)
           rw [hn0] at m1
           clear hn0
           go_wp2_with (go_at_call 16; refine (titleR_any st B _ c _ st[i].base _ rfl (HST.out.after hbel) hbs).mono ?_; rintro e2 w2 ⟨rfl, hb2⟩; have m1' := (hb2.cell (p := ⟨sb, so + i * 4, none⟩) (Nat.lt_of_lt_of_le hsb hbel.size)).trans m1; have m3'' := (hb2.cell (p := ⟨sb, so + i * 4 + 2, none⟩) (Nat.lt_of_lt_of_le hsb hbel.size)).trans m3')
           rw [show acc ++ 70 :: 82 :: 79 :: 77 :: 32 :: (titleB st st[i].base ++ [10]) = acc ++ stageHeadT st st[i] from by rw [HH.out]; simp [wFROMS]])
        | (have hn1 : (st[i].name == []) = false := by simpa using hn0
           have HH := Lib.hid (show stageHeadT st st[i] = wFROMS ++ titleB st st[i].base ++ (wSAS ++ st[i].name) ++ [10] by unfold stageHeadT; rw [if_neg hn0])
           clear hn0
           go_wp2_with (go_at_call 16; refine (titleR_any st B _ c _ st[i].base _ rfl (HST.out.after hbel) hbs).mono ?_; rintro e2 w2 ⟨rfl, hb2⟩; have m1' := (hb2.cell (p := ⟨sb, so + i * 4, none⟩) (Nat.lt_of_lt_of_le hsb hbel.size)).trans m1; have m3'' := (hb2.cell (p := ⟨sb, so + i * 4 + 2, none⟩) (Nat.lt_of_lt_of_le hsb hbel.size)).trans m3')
           rw [show acc ++ 70 :: 82 :: 79 :: 77 :: 32 :: (titleB st st[i].base ++ 32 :: 65 :: 83 :: 32 :: (st[i].name ++ [10])) = acc ++ stageHeadT st st[i] from by rw [HH.out]; simp [wFROMS, wSAS]])
      all_goals
        have HB2 := Lib.hid (hbel.trans (hb2.mono hbel.size))
        have hal : (acc ++ stageHeadT st st[i]).length ≤ 9700000 := by have := HHl.out; rw [List.length_append]; omega
        obtain ⟨acc1, hacc1⟩ : ∃ a, a = acc ++ stageHeadT st st[i] := ⟨_, rfl⟩
        rw [← hacc1] at hal ⊢
        have HA1 := Lib.hid hacc1
        clear hacc1 HH m1 m2 m3' m1' m3'' hb2 hbel HL htl
        go_loopw [3, 6] (fun v x wr => ∃ k : Nat, k ≤ st[i].steps.length ∧ x = .int .i64 k ∧ v = .string (S (acc1 ++ (st[i].steps.take k).flatMap (stepT st))) ∧ Below w.heap.size w wr) (fun _ x _ => st[i].steps.length - (intOf x).toNat)
        (case atStart => exact ⟨0, by omega, by go_num, str_eq (by simp), HB2.out⟩)
        (case round =>
          clear HB2
          obtain ⟨k, hk, rfl, rfl, hbel⟩ := hrel
          have HM0 := (hbel.cell (p := ⟨sb, so + i * 4 + 2, none⟩) hsb).trans HM.out
          have HL := stepsT_len HX.out HT.out hs24 k
          obtain ⟨acc2, hacc2⟩ : ∃ a, a = acc1 ++ (st[i].steps.take k).flatMap (stepT st) := ⟨_, rfl⟩
          have hal2 : acc2.length ≤ 11700000 := by rw [hacc2, List.length_append]; omega
          rw [← hacc2]
          have HA2 := Lib.hid hacc2
          clear hacc2 HL
          by_cases hlk : k < st[i].steps.length
          · obtain ⟨b2, o2, rfl, hb2, hc2⟩ := HSR.out.at (k * 4) (by rw [HSC.out.len]; omega)
            obtain ⟨A', c', s1, s2, s3, s4, hwR⟩ := HSC.out.get k hlk
            have HWR := Lib.hid hwR
            have z0 := (hbel.cell (p := ⟨b2, o2 + k * 4, none⟩) hb2).trans (hc2 _ _ s1)
            have z1 := (hbel.cell (p := ⟨b2, o2 + k * 4 + 1, none⟩) hb2).trans (hc2 _ _ s2)
            have z2 := (hbel.cell (p := ⟨b2, o2 + k * 4 + 2, none⟩) hb2).trans (hc2 _ _ s3)
            have z3 := (hbel.cell (p := ⟨b2, o2 + k * 4 + 3, none⟩) hb2).trans (hc2 _ _ s4)
            have hkl : (k : Int) < (st[i].steps.length : Int) := by omega
            have HY := Lib.hid (HX.out.2 _ (List.getElem_mem hlk))
            have HTk2 := Lib.hid (stepT_take (st := st) hlk)
            have hop := boundsB_len HY.out.2.2
            have HSH := Lib.hid (stepHeadT_len HY.out HT.out)
            have hstg : st[i].steps[k].stage < (i : Int) := HWF.out.2 _ (List.getElem_mem hlk)
            have HBS := Lib.hid hb2
            clear hwR s1 s2 s3 s4 hc2 hb2
            obtain ⟨x, hx⟩ : ∃ x, x = st[i].steps[k] := ⟨_, rfl⟩
            rw [← hx] at z0 z1 z2 z3 HY HTk2 hop HSH hstg HWR
            have HXX := Lib.hid hx
            clear hx
            have P4 := Lib.hid (Blk4.new wr (.string (S x.op)) (.slice A' x.words.length c') (.int .i64 x.stage) (.int .i64 x.at_) tStep)
            have HBA := Lib.hid (hbel.alloc hbel.size (.cells #[.string (S x.op), .slice A' x.words.length c', .int .i64 x.stage, .int .i64 x.at_] tStep))
            have hways : x.stage < 0 ∨ ∃ m : Nat, x.stage = (m : Int) := by
              rcases Int.lt_or_le x.stage 0 with h | h
              · exact .inl h
              · exact .inr ⟨x.stage.toNat, by omega⟩
            rcases hways with hg | ⟨m, hm⟩
            all_goals first
              | (have hg2 : ¬ (0 ≤ x.stage) := by omega
                 have HH := Lib.hid (show stepHeadT st x = x.op by unfold stepHeadT; rw [if_neg hg2]; simp)
                 clear hg
                 go_wp2
                 rw [show acc2 ++ x.op = acc2 ++ stepHeadT st x from by rw [HH.out]]
                 generalize hWA : wr.alloc (.cells #[.string (S x.op), .slice A' x.words.length c', .int .i64 x.stage, .int .i64 x.at_] tStep) = wa at *
                 clear hWA)
              | (have hml : m < st.length := by omega
                 have HH := Lib.hid (show stepHeadT st x = x.op ++ (wHFROM ++ titleB st x.stage) by unfold stepHeadT; rw [if_pos (by omega)])
                 rw [hm] at z2 P4 HBA
                 have HH2 := Lib.hid (show stepHeadT st x = x.op ++ (wHFROM ++ st[m].name) by rw [HH.out, hm, titleB_at hml])
                 obtain ⟨sb', so', _, _, _, _, hsb', hsb2, y1, _⟩ := HST.out.get hml
                 simp only [Option.some.injEq, Addr.mk.injEq, and_true] at hsb'
                 obtain ⟨rfl, rfl⟩ := hsb'
                 have y1 := (hbel.cell (p := ⟨sb, so + m * 4, none⟩) hsb).trans y1
                 have hnm := (HT.out st[m] (List.getElem_mem hml)).1
                 have hmi : (m : Int) < (st.length : Int) := by omega
                 have hsw : sb < wr.heap.size := Nat.lt_of_lt_of_le hsb hbel.size
                 clear HH hm
                 go_wp2
                 rw [show acc2 ++ (x.op ++ 32 :: 45 :: 45 :: 102 :: 114 :: 111 :: 109 :: 61 :: st[m].name) = acc2 ++ stepHeadT st x from by rw [HH2.out]; simp [wHFROM]]
                 generalize hWA : wr.alloc (.cells #[.string (S x.op), .slice A' x.words.length c', .int .i64 (m : Int), .int .i64 x.at_] tStep) = wa at *
                 clear hWA)
            all_goals
              obtain ⟨gx, hgx⟩ : ∃ g, g = wr.heap.size := ⟨_, rfl⟩
              rw [← hgx] at P4 ⊢
              obtain ⟨sg, P5⟩ : ∃ sg, Hid (Blk4 wa gx (.string (S x.op)) (.slice A' x.words.length c') sg (.int .i64 x.at_)) := ⟨_, P4⟩
              have HGX := Lib.hid hgx
              have hal3 : (acc2 ++ stepHeadT st x).length ≤ 11800000 := by have := HSH.out; rw [List.length_append]; omega
              obtain ⟨acc3, hacc3⟩ : ∃ a, a = acc2 ++ stepHeadT st x := ⟨_, rfl⟩
              rw [← hacc3] at hal3 ⊢
              have HA3 := Lib.hid hacc3
              have hw3 := HY.out.1
              clear hacc3 hgx P4 z0 z1 z2 z3 HM0
              go_loopw [3, 8] (fun v y wr => ∃ q : Nat, q ≤ x.words.length ∧ y = .int .i64 q ∧ v = .string (S (acc3 ++ wordsT (x.words.take q))) ∧ Hid (Blk4 wr gx (.string (S x.op)) (.slice A' x.words.length c') sg (.int .i64 x.at_)) ∧ Below w.heap.size w wr) (fun _ y _ => x.words.length - (intOf y).toNat)
              (case atStart => exact ⟨0, by omega, by go_num, str_eq (by simp [wordsT]), P5, HBA.out⟩)
              (case round =>
                clear P5 HBA
                obtain ⟨q, hq, rfl, rfl, P5, hbel⟩ := hrel
                obtain ⟨f1, f2, f3, f4, f5, f6, f7, f8⟩ := P5.out.facts
                have hgl := P5.out.lt
                have HL := wordsT_len HY.out q
                by_cases hlq : q < x.words.length
                · obtain ⟨cs, r1, r2⟩ := HWR.out
                  obtain ⟨b3, o3, rfl, hb3, hc3⟩ := r1.rd.at (q * 2) (by rw [r2.len]; omega)
                  obtain ⟨ao3, c3, g1, g2, g3⟩ := r2.get q hlq
                  have y0 := (hbel.cell (p := ⟨b3, o3 + q * 2, none⟩) hb3).trans (hc3 _ _ g1)
                  have y1 := (hbel.cell (p := ⟨b3, o3 + q * 2 + 1, none⟩) hb3).trans (hc3 _ _ g2)
                  have HGd := Lib.hid (HY.out.2.1 _ (List.getElem_mem hlq))
                  have hfl := (formB_len HY.out.2.1 _ (List.getElem_mem hlq)).2
                  have HF := Lib.hid (fun (wx : World) (hbx : Below w.heap.size w wx) => formR_any x.words[q] ao3 _ c3 _ wx rfl rfl HGd.out.1 HGd.out.2 (ownsRow_below g3 hbx))
                  have HWt := Lib.hid (wordsT_take hlq)
                  have hql : (q : Int) < (x.words.length : Int) := by omega
                  clear r1 r2 hc3 g1 g2 g3
                  go_wp2_with (go_at_call 17; refine (HF.out _ hbel).mono ?_; rintro e6 w6 ⟨rfl, hb6⟩; have P6 := Lib.hid (P5.out.after hb6); have HB6 := Lib.hid (hbel.trans (hb6.mono hbel.size)))
                  go_roundw
                  (case rel => exact ⟨q + 1, by omega, by go_num, str_eq (by rw [HWt.out]; try simp), P6, HB6.out⟩)
                  (case measure => simp [intOf]; omega)
                · have hqe : q = x.words.length := by omega
                  have HQ := Lib.hid (show acc3 ++ (wordsT (x.words.take q) ++ [10]) = acc1 ++ (st[i].steps.take (k + 1)).flatMap (stepT st) by
                    rw [HTk2.out, HA3.out, HA2.out, hqe, List.take_length]; simp)
                  clear hqe
                  go_wp2
                  go_roundw
                  (case rel => exact ⟨k + 1, by omega, by go_num, str_eq (by rw [← HQ.out]; try simp), hbel⟩)
                  (case measure => simp [intOf]; omega))
          · have hke : k = st[i].steps.length := by omega
            have HQ := Lib.hid (show acc2 = (st.take (i + 1)).flatMap (stageT st) by
              rw [HTk.out, HA2.out, HA1.out, hke, List.take_length]; simp)
            clear hke
            go_wp2
            go_roundw
            (case rel => exact ⟨i + 1, by omega, by go_num, str_eq HQ.out, hbel⟩)
            (case measure => simp [intOf]; omega))
    · obtain rfl : i = st.length := by omega
      have HE := Lib.hid (show (st.take st.length).flatMap (stageT st) = textB st by rw [List.take_length]; rfl)
      go_wp2
      go_ret
      exact ⟨ret_str HE.out, hbel⟩
end Go.Proofs.YtflggoddfjmljaaGreatDoor
namespace Go.Proofs.YtflggoddfjmljaaGreatDoor
open Go.RowKit

/-- what 'word' answers -/
def wordOut (w w' : World) (e : Ending) (i : Nat) : Except Nat (List Atm × Nat) → Prop
  | .error p => ∃ ao n c, ∃ j : Int, e = .returned (.tuple #[.agg #[.slice ao n c, .int .i64 j], .int .i64 0, faultV 5 p])
  | .ok (l, n) => ∃ v, e = .returned (.tuple #[.agg #[v, .int .i64 i], .int .i64 n, faultV 0 (-1)]) ∧ w'.ownsRow w.heap.size 75 3 v l.length (atms l)
theorem wordOut_err {w w' : World} {e : Ending} {i p : Nat} {r : Except Nat (List Atm × Nat)} {ao : Option Addr} {n c : Nat} {j : Int} (h : r = .error p) (he : e = .returned (.tuple #[.agg #[.slice ao n c, .int .i64 j], .int .i64 0, faultV 5 p])) : wordOut w w' e i r := by subst h; exact ⟨ao, n, c, j, he⟩

theorem goesB_stops {s : List UInt8} {k : Nat} (h : stopsB s k = true) : goesB s k = false := by
  cases hg : goesB s k with
  | false => rfl
  | true =>
    obtain ⟨h1, h2, h3⟩ := goesB_lt hg
    simp [stopsB, h2] at h

/-- the three variables of 'word' under way, its atoms, and what was there before -/
structure WInv (B g4 g6 g7 i : Nat) (w0 wr : World) (acc : List Atm) (ao : Option Addr) (c : Nat) : Prop where
  own : wr.ownsRow (B + 3) 75 3 (.slice ao acc.length c) acc.length (atms acc)
  b4 : Blk2 wr g4 (.slice none 0 0) (.int .i64 0)
  b6 : Blk2 wr g6 (.int .i64 0) (.int .i64 0)
  b7 : Blk2 wr g7 (.slice ao acc.length c) (.int .i64 i)
  bel : Below B w0 wr
  e4 : g4 = B
  e6 : g6 = B + 1
  e7 : g7 = B + 2
  sz : B + 3 ≤ wr.heap.size
theorem WInv.after {B g4 g6 g7 i : Nat} {w0 wr w' : World} {acc : List Atm} {ao : Option Addr} {c : Nat} (h : WInv B g4 g6 g7 i w0 wr acc ao c) (hb : Below wr.heap.size wr w') : WInv B g4 g6 g7 i w0 w' acc ao c :=
  ⟨ownsRow_below h.own hb, h.b4.after hb, h.b6.after hb, h.b7.after hb, h.bel.trans (hb.mono (by have := h.sz; omega)), h.e4, h.e6, h.e7, Nat.le_trans h.sz hb.size⟩
theorem WInv.alloc {B g4 g6 g7 i : Nat} {w0 wr : World} {acc : List Atm} {ao : Option Addr} {c : Nat} (h : WInv B g4 g6 g7 i w0 wr acc ao c) (o : Obj) : WInv B g4 g6 g7 i w0 (wr.alloc o) acc ao c :=
  h.after ((Below.refl _ _).alloc (Nat.le_refl _) o)
theorem WInv.drew {B g4 g6 g7 i : Nat} {w0 wr : World} {acc : List Atm} {ao : Option Addr} {c : Nat} (h : WInv B g4 g6 g7 i w0 wr acc ao c) : WInv B g4 g6 g7 i w0 wr.drew acc ao c :=
  h.after (Below.refl _ _).drew
theorem WInv.facts {B g4 g6 g7 i : Nat} {w0 wr : World} {acc : List Atm} {ao : Option Addr} {c : Nat} (h : WInv B g4 g6 g7 i w0 wr acc ao c) : g4 ≠ g6 ∧ g6 ≠ g4 ∧ g4 < wr.heap.size ∧ g6 < wr.heap.size ∧ g7 < wr.heap.size := by
  have h1 := h.e4; have h2 := h.e6; have h3 := h.e7; have h4 := h.sz
  refine ⟨by omega, by omega, by omega, by omega, by omega⟩
/-- an append to the atoms, and its store -/
theorem WInv.push {B g4 g6 g7 i : Nat} {w0 wr w2 : World} {acc l : List Atm} {ao ao' : Option Addr} {c c' : Nat} (h : WInv B g4 g6 g7 i w0 wr acc ao c)
    (hown : w2.ownsRow (B + 3) 75 3 (.slice ao' (acc.length + l.length) c') (acc.length + l.length) (atms acc ++ atms l)) (hg : wr.grownBy w2 (Value.slice ao acc.length c).ownBlock) :
    WInv B g4 g6 g7 i w0 (w2.setCell ⟨g7, 0, none⟩ (.slice ao' (acc.length + l.length) c')) (acc ++ l) ao' c' := by
  have h1 := h.e4; have h2 := h.e6; have h3 := h.e7; have h4 := h.sz
  refine ⟨?_, ?_, ?_, ?_, ?_, h1, h2, h3, ?_⟩
  · rw [atms_app, List.length_append]; exact ownsRow_setCell_below hown (a := ⟨g7, 0, none⟩) (by show g7 < B + 3; omega) _
  · exact (h.b4.grown hg (own_ne h.own (by omega))).far _ (by omega)
  · exact (h.b6.grown hg (own_ne h.own (by omega))).far _ (by omega)
  · rw [List.length_append]; exact (h.b7.grown hg (own_ne h.own (by omega))).set0 _
  · exact Below.setCell (h.bel.grown hg (by omega) (fun k hk => by have := own_le h.own k hk; omega)) (show B ≤ g7 by omega) _
  · rw [World.size_setCell]; exact Nat.le_trans h4 hg.size
theorem WInv.kept {B g4 g6 g7 i : Nat} {w0 wr w2 : World} {acc : List Atm} {ao : Option Addr} {c : Nat} (h : WInv B g4 g6 g7 i w0 wr acc ao c) (hg : wr.grownBy w2 (Value.slice ao acc.length c).ownBlock) : Blk2 w2 g7 (.slice ao acc.length c) (.int .i64 i) :=
  h.b7.grown hg (own_ne h.own (by have := h.e7; omega))
/-- the two results are written -/
theorem WInv.out {B g4 g6 g7 i : Nat} {w0 wr : World} {acc : List Atm} {ao : Option Addr} {c : Nat} (h : WInv B g4 g6 g7 i w0 wr acc ao c) (u1 u2 u3 u4 : Value) :
    ((((wr.setCell ⟨g4, 0, none⟩ u1).setCell ⟨g4, 1, none⟩ u2).setCell ⟨g6, 0, none⟩ u3).setCell ⟨g6, 1, none⟩ u4).ownsRow B 75 3 (.slice ao acc.length c) acc.length (atms acc) ∧
    Below B w0 ((((wr.setCell ⟨g4, 0, none⟩ u1).setCell ⟨g4, 1, none⟩ u2).setCell ⟨g6, 0, none⟩ u3).setCell ⟨g6, 1, none⟩ u4) := by
  have h1 := h.e4; have h2 := h.e6
  refine ⟨ownsRow_two (ownsRow_two h.own (by omega) _ _ (Nat.le_refl _)) (by omega) _ _ (by omega), ?_⟩
  exact Below.setCell (Below.setCell (Below.setCell (Below.setCell h.bel (show B ≤ g4 by omega) _) (show B ≤ g4 by omega) _) (show B ≤ g6 by omega) _) (show B ≤ g6 by omega) _

set_option maxRecDepth 100000 in
set_option maxHeartbeats 4000000 in
theorem wordR_any (s : List UInt8) (i : Nat) (w : World) (hs : s.length ≤ 2000000000) (hi : i < s.length) :
    Calls Tryz.prog 23 #[.string (S s), .int .i64 i] w fun e w' => wordOut w w' e i (wordB s i []) ∧ Below w.heap.size w w' := by
  obtain ⟨i0, hi0, hz0, hz1, hz2⟩ := info_parts (show (Tryz.prog.info? 75).map (fun i => (i.zero, i.size, i.bytes)) = some (some (.agg #[.int .u8 0, .string ByteArray.empty, .int .i64 0]), 3, 32) by kernel_rfl)
  go_enter Tryz.func23, Tryz.ntmps23
  go_wp2
  have P := Lib.hid (show WInv w.heap.size w.heap.size (w.heap.size + 1) (w.heap.size + 1 + 1) i w (((w.alloc (.cells #[.slice none 0 0, .int .i64 0] 46)).alloc (.cells #[.int .i64 0, .int .i64 0] 27)).alloc (.cells #[.slice none 0 0, .int .i64 i] 46)) [] none 0 from by
    refine ⟨World.ownsRow_nil _ _ _ _, ((Blk2.new w _ _ _).alloc _).alloc _, ?_, ?_, (((Below.refl _ _).alloc (Nat.le_refl _) _).alloc (by simp) _).alloc (by simp; omega) _, rfl, rfl, rfl, by simp⟩
    · have := (Blk2.new (w.alloc (.cells #[.slice none 0 0, .int .i64 0] 46)) (.int .i64 0) (.int .i64 0) 27).alloc (.cells #[.slice none 0 0, .int .i64 i] 46)
      simpa only [World.size_alloc] using this
    · have := Blk2.new ((w.alloc (.cells #[.slice none 0 0, .int .i64 0] 46)).alloc (.cells #[.int .i64 0, .int .i64 0] 27)) (.slice none 0 0) (.int .i64 i) 46
      simpa only [World.size_alloc, List.length_nil] using this)
  generalize hW : ((w.alloc (.cells #[.slice none 0 0, .int .i64 0] 46)).alloc (.cells #[.int .i64 0, .int .i64 0] 27)).alloc (.cells #[.slice none 0 0, .int .i64 i] 46) = w1 at *
  clear hW
  obtain ⟨g4, e4⟩ : ∃ g, g = w.heap.size := ⟨_, rfl⟩
  obtain ⟨g6, e6⟩ : ∃ g, g = w.heap.size + 1 := ⟨_, rfl⟩
  obtain ⟨g7, e7⟩ : ∃ g, g = w.heap.size + 1 + 1 := ⟨_, rfl⟩
  rw [← e7, ← e6, ← e4]
  replace P := Lib.hid (show WInv w.heap.size g4 g6 g7 i w w1 [] none 0 by rw [e4, e6, e7]; exact P.out)
  clear e4 e6 e7
  go_loopw [1] (fun x wr => ∃ (acc : List Atm) (k : Nat) (ao : Option Addr) (c : Nat), x = .int .i64 k ∧ i ≤ k ∧ k ≤ s.length ∧ acc.length ≤ k ∧ Hid (wordB s i [] = wordB s k acc) ∧
      Hid (WInv w.heap.size g4 g6 g7 i w wr acc ao c)) (fun x _ => s.length - (intOf x).toNat)
  case atStart => exact ⟨[], i, none, 0, by go_num, by omega, by omega, by simp, rfl, P⟩
  case round =>
    obtain ⟨acc, k, ao, cp, rfl, hik, hk, hal, HQ, PI⟩ := hrel
    clear P
    have hszB := PI.out.sz
    obtain ⟨ne1, ne2, lt4, lt6, lt7⟩ := PI.out.facts
    obtain ⟨c1, c2, c3, c4⟩ := PI.out.b4.facts
    obtain ⟨c5, c6, c7, c8⟩ := PI.out.b6.facts
    obtain ⟨d1, d2, d3, d4⟩ := PI.out.b7.facts
    by_cases hstop : stopsB s k = true ∨ goesB s k = true ∨ s[k]? = some 32
    · have Y := Lib.hid (show wordB s i [] = .ok (acc, k) by
        rw [HQ.out]
        rcases Nat.lt_or_ge k s.length with h | h
        · refine wordB_stop h ?_
          rw [stopsB_lt h, List.getElem?_eq_getElem h] at hstop
          simpa using hstop
        · exact wordB_end h)
      have hways : (stopsB s k = true ∧ goesB s k = false) ∨ (stopsB s k = false ∧ goesB s k = true) ∨ (stopsB s k = false ∧ goesB s k = false ∧ ∃ h : k < s.length, ((s[k].toNat : Int) == 32) = true) := by
        cases h1 : stopsB s k with
        | true => exact .inl ⟨rfl, goesB_stops h1⟩
        | false =>
          cases h2 : goesB s k with
          | true => exact .inr (.inl ⟨rfl, rfl⟩)
          | false =>
            rw [h1, h2] at hstop
            have h3 : s[k]? = some 32 := by simpa using hstop
            obtain ⟨h4, h5⟩ := List.getElem?_eq_some_iff.1 h3
            exact .inr (.inr ⟨rfl, rfl, h4, by rw [h5]; rfl⟩)
      clear hstop HQ
      rcases hways with ⟨HS, HG⟩ | ⟨HS, HG⟩ | ⟨HS, HG, hlt, h32⟩
      all_goals
        replace HS := Lib.hid HS
        replace HG := Lib.hid HG
        go_wp2_with (first
          | (go_at_call 22; refine (stops_any s k _ (by unfold maxLen; omega)).mono ?_; rintro e9 w9 ⟨rfl, rfl⟩; rw [HS.out])
          | (go_at_call 21; refine (goes_any s k _ (by unfold maxLen; omega) (by omega)).mono ?_; rintro e9 w9 ⟨rfl, rfl⟩; rw [HG.out]))
        go_region_with (go_at_call 15; refine (fine_any _).mono ?_; rintro e8 w8 ⟨rfl, hb8⟩; simp only [faultV]; obtain ⟨f1, f2, f3, f4⟩ := (Blk2.after PI.out.drew.b4 hb8).facts; obtain ⟨f5, f6, f7, f8⟩ := (Blk2.after PI.out.drew.b6 hb8).facts; obtain ⟨f9, f10, f11, f12⟩ := (Blk2.after PI.out.drew.b7 hb8).facts; have HB8 := Lib.hid hb8; clear hb8)
        all_goals
          go_wp2
          refine bodyPost_ret (by simp [results, Tryz.results23, go_sem, f1, f2, f3, f4, f5, f6, f7, f8, ne1, ne2, lt4, lt6]; try rfl) rfl ?_
          have W8 := ((PI.out.drew.after HB8.out).out (.slice ao acc.length cp) (.int .i64 i) (.int .i64 0) (.int .i64 (-1)))
          refine ⟨?_, W8.2⟩
          rw [Y.out]
          exact ⟨_, rfl, W8.1⟩
    have hst : stopsB s k = false := by cases h : stopsB s k with | false => rfl | true => exact absurd (.inl h) hstop
    have hg : goesB s k = false := by cases h : goesB s k with | false => rfl | true => exact absurd (.inr (.inl h)) hstop
    obtain ⟨hlt, n10⟩ := stopsB_false hst
    have n32 : s[k] ≠ 32 := fun e => hstop (.inr (.inr (by rw [List.getElem?_eq_getElem hlt, e])))
    have h32 : ((s[k].toNat : Int) == 32) = false := u8_ne n32
    have HS := Lib.hid hst
    have HG := Lib.hid hg
    clear hstop hst hg
    by_cases e34 : s[k] = 34
    · have h34 : ((s[k].toNat : Int) == 34) = true := by rw [e34]; rfl
      cases hq : quotedB s k (k + 1) [] with
      | error p =>
        have Y := Lib.hid (show wordB s i [] = .error p by rw [HQ.out]; exact wordB_q0 hlt e34 HG.out hq)
        have HV := Lib.hid hq
        clear hq e34 n10 n32 HQ
        go_wp2_with (first
          | (go_at_call 22; refine (stops_any s k _ (by unfold maxLen; omega)).mono ?_; rintro e9 w9 ⟨rfl, rfl⟩; rw [HS.out])
          | (go_at_call 21; refine (goes_any s k _ (by unfold maxLen; omega) (by omega)).mono ?_; rintro e9 w9 ⟨rfl, rfl⟩; rw [HG.out])
          | (go_at_call 44; refine (quotedR_any s k _ (by omega) hlt).mono ?_; rintro e7 w7 ⟨he7, hb7⟩; rw [HV.out] at he7; cases he7; simp only [faultV]; have P7 := Lib.hid (PI.out.after hb7); obtain ⟨-, -, lt4, lt6, lt7⟩ := P7.out.facts; obtain ⟨f1, f2, f3, f4⟩ := P7.out.b4.facts; obtain ⟨f5, f6, f7, f8⟩ := P7.out.b6.facts; obtain ⟨d1, d2, d3, d4⟩ := P7.out.b7.facts; clear hb7))
        go_region
        all_goals
          go_wp2
          refine bodyPost_ret (by simp [results, Tryz.results23, go_sem, f1, f2, f3, f4, f5, f6, f7, f8, ne1, ne2, lt4, lt6]; try rfl) rfl ?_
          have W8 := P7.out.out (.slice ao acc.length cp) (.int .i64 i) (.int .i64 5) (.int .i64 p)
          refine ⟨wordOut_err Y.out rfl, ?_⟩
          exact (W8.2.alloc (by simp only [World.size_setCell]; have := P7.out.sz; omega) _).drew
      | ok ln =>
        obtain ⟨l, n⟩ := ln
        have Y := Lib.hid (show wordB s i [] = wordB s n (acc ++ l) by rw [HQ.out]; exact wordB_q hlt e34 HG.out hq)
        obtain ⟨q1, q2, q3⟩ := quotedB_le _ _ _ _ _ _ hq
        simp only [List.length_nil, Nat.add_zero] at q3
        have HV := Lib.hid hq
        clear hq e34 n10 n32 HQ
        go_wp2_with (first
          | (go_at_call 22; refine (stops_any s k _ (by unfold maxLen; omega)).mono ?_; rintro e9 w9 ⟨rfl, rfl⟩; rw [HS.out])
          | (go_at_call 21; refine (goes_any s k _ (by unfold maxLen; omega) (by omega)).mono ?_; rintro e9 w9 ⟨rfl, rfl⟩; rw [HG.out])
          | (go_at_call 44; refine (quotedR_any s k _ (by omega) hlt).mono ?_; rintro e7 w7 ⟨he7, hb7⟩; rw [HV.out] at he7; obtain ⟨lv, rfl, hlv⟩ := he7; simp only [faultV]; obtain ⟨lo, lc, rfl⟩ := ownsRow_form hlv; have HL := Lib.hid hlv; have P7 := Lib.hid (PI.out.after hb7); have sz7 := P7.out.sz; obtain ⟨-, -, lt4, lt6, lt7⟩ := P7.out.facts; obtain ⟨d1, d2, d3, d4⟩ := P7.out.b7.facts; clear hb7 hlv)
          | (at_builtin; refine wpList_append_row rfl _ _ 44 rfl (w.heap.size + 3) 75 i0 (.agg #[.int .u8 0, .string ByteArray.empty, .int .i64 0]) 3 32 Tryz.underlying44 hi0 hz0 hz1 hz2 rfl (by decide) _ _ _ rfl (P7.out.alloc _).own _ _ _ (atms l) rfl (HL.out.alloc _) (atms_one_cell l) (by unfold maxLen; omega) (by omega) (by simp; omega) ?_; intro v' w2 hown2 hgr2; obtain ⟨ao', c', rfl⟩ := ownsRow_form hown2; have PW := Lib.hid ((P7.out.alloc _).push hown2 hgr2); obtain ⟨d1, d2, d3, d4⟩ := ((P7.out.alloc _).kept hgr2).facts; clear hown2 hgr2))
        go_roundw
        case rel => exact ⟨acc ++ l, n, ao', c', by go_num, by omega, by omega, by simp; omega, Y, PW⟩
        case measure => simp [intOf]; omega
    have h34 : ((s[k].toNat : Int) == 34) = false := u8_ne e34
    by_cases e36 : s[k] = 36
    · have h36 : ((s[k].toNat : Int) == 36) = true := by rw [e36]; rfl
      cases hv : varB s k with
      | none =>
        have Y := Lib.hid (show wordB s i [] = .error k by rw [HQ.out]; exact wordB_var0 hlt e36 HG.out hv)
        have HV := Lib.hid hv
        clear hv e34 e36 n10 n32 HQ
        go_wp2_with (first
          | (go_at_call 22; refine (stops_any s k _ (by unfold maxLen; omega)).mono ?_; rintro e9 w9 ⟨rfl, rfl⟩; rw [HS.out])
          | (go_at_call 21; refine (goes_any s k _ (by unfold maxLen; omega) (by omega)).mono ?_; rintro e9 w9 ⟨rfl, rfl⟩; rw [HG.out])
          | (go_at_call 45; refine (variableR_any s k _ (by omega) hlt).mono ?_; rintro e7 w7 ⟨rfl, hb7⟩; rw [HV.out]; simp only [varV, Atm.agg]; have P7 := Lib.hid (PI.out.after hb7); have sz7 := P7.out.sz; obtain ⟨-, -, lt4, lt6, lt7⟩ := P7.out.facts; obtain ⟨d1, d2, d3, d4⟩ := P7.out.b7.facts; clear hb7))
        go_region_with (go_at_call 9; refine (bad_any 5 k _).mono ?_; rintro e8 w8 ⟨rfl, hb8⟩; simp only [faultV]; obtain ⟨f1, f2, f3, f4⟩ := (Blk2.after (P7.out.alloc _).drew.b4 hb8).facts; obtain ⟨f5, f6, f7, f8⟩ := (Blk2.after (P7.out.alloc _).drew.b6 hb8).facts; obtain ⟨f9, f10, f11, f12⟩ := (Blk2.after (P7.out.alloc _).drew.b7 hb8).facts; have HB8 := Lib.hid hb8; clear hb8)
        all_goals
          go_wp2
          refine bodyPost_ret (by simp [results, Tryz.results23, go_sem, f1, f2, f3, f4, f5, f6, f7, f8, ne1, ne2, lt4, lt6]; try rfl) rfl ?_
          have W8 := (((P7.out.alloc _).drew.after HB8.out).out (.slice ao acc.length cp) (.int .i64 i) (.int .i64 5) (.int .i64 k))
          refine ⟨wordOut_err Y.out rfl, W8.2⟩
      | some xn =>
        obtain ⟨x, n⟩ := xn
        have Y := Lib.hid (show wordB s i [] = wordB s (k + n) (acc ++ [.var x k]) by rw [HQ.out]; exact wordB_var hlt e36 HG.out hv)
        obtain ⟨v1, v2, v3, v4⟩ := varB_pos hv
        have HV := Lib.hid hv
        clear hv e34 e36 n10 n32 HQ
        have hn0 : ((n : Int) == 0) = false := by rw [beq_eq_false_iff_ne]; omega
        go_wp2_with (first
          | (go_at_call 22; refine (stops_any s k _ (by unfold maxLen; omega)).mono ?_; rintro e9 w9 ⟨rfl, rfl⟩; rw [HS.out])
          | (go_at_call 21; refine (goes_any s k _ (by unfold maxLen; omega) (by omega)).mono ?_; rintro e9 w9 ⟨rfl, rfl⟩; rw [HG.out])
          | (go_at_call 45; refine (variableR_any s k _ (by omega) hlt).mono ?_; rintro e7 w7 ⟨rfl, hb7⟩; rw [HV.out]; simp only [varV, Atm.agg]; have P7 := Lib.hid (PI.out.after hb7); have sz7 := P7.out.sz; obtain ⟨-, -, lt4, lt6, lt7⟩ := P7.out.facts; obtain ⟨d1, d2, d3, d4⟩ := P7.out.b7.facts; clear hb7)
          | (at_builtin; refine wpList_append_own _ rfl _ _ 44 rfl (w.heap.size + 3) 75 i0 (.agg #[.int .u8 0, .string ByteArray.empty, .int .i64 0]) 3 32 Tryz.underlying44 hi0 hz0 hz1 hz2 rfl (by decide) _ _ _ rfl ((P7.out.alloc _).alloc _).own ⟨_, 0, none⟩ 1 1 [.int .u8 0, .string (S x), .int .i64 k] rfl rfl (cells3_at _ _ _ _ _ _ (by simp)) (by simp [Value.oneCell']) (by unfold maxLen; omega) (by omega) (by simp; omega) ?_; intro v' w2 hown2 hgr2 _; obtain ⟨ao', c', rfl⟩ := ownsRow_form hown2; have PW := Lib.hid (((P7.out.alloc _).alloc _).push (l := [.var x k]) hown2 hgr2); obtain ⟨d1, d2, d3, d4⟩ := (((P7.out.alloc _).alloc _).kept hgr2).facts; clear hown2 hgr2))
        go_roundw
        case rel => exact ⟨acc ++ [.var x k], k + n, ao', c', by go_num, by omega, by omega, by simp; omega, Y, PW⟩
        case measure => simp [intOf]; omega
    have h36 : ((s[k].toNat : Int) == 36) = false := u8_ne e36
    by_cases e92 : s[k] = 92
    · have h92 : ((s[k].toNat : Int) == 92) = true := by rw [e92]; rfl
      rcases Nat.lt_or_ge (k + 1) s.length with hl1 | hl1
      · have Y := Lib.hid (show wordB s i [] = wordB s (k + 2) (acc ++ [.ch s[k + 1]]) by rw [HQ.out]; exact wordB_esc hl1 e92 HG.out)
        clear e34 e36 n10 n32 HQ e92
        have hw1 : IntKind.i64.wrap ((k : Int) + 1) = (k : Int) + 1 := by rw [IntKind.wrap_i64]; omega
        have hw2 : (0 : Int) ≤ (k : Int) + 1 := by omega
        have hw3 : (k : Int) + 1 < (s.length : Int) := by omega
        have hw4 : ((k : Int) + 1).toNat = k + 1 := by omega
        go_wp2_with (first
          | (go_at_call 22; refine (stops_any s k _ (by unfold maxLen; omega)).mono ?_; rintro e9 w9 ⟨rfl, rfl⟩; rw [HS.out])
          | (go_at_call 21; refine (goes_any s k _ (by unfold maxLen; omega) (by omega)).mono ?_; rintro e9 w9 ⟨rfl, rfl⟩; rw [HG.out]))
        go_region_law (refine step_append_lies _ (by rfl) (.tmp 103) (.tmp 109) 44 (by rfl) (w.heap.size + 3) 75 i0 (.agg #[.int .u8 0, .string ByteArray.empty, .int .i64 0]) 3 32 Tryz.underlying44 hi0 hz0 hz1 hz2 (by rfl) (by decide) (.slice ao acc.length cp) acc.length (atms acc) (by rfl) (PI.out.drew.alloc _).own ⟨wr.heap.size, 0, none⟩ 1 1 [.int .u8 s[k + 1].toNat, .string (S []), .int .i64 0] (by rfl) (by rfl) (cells3_at _ _ _ _ _ _ (by simp)) (by simp [Value.oneCell']) (by decide) (by unfold maxLen; omega) (by omega) (by simp; omega) _ (by rfl) ?_; intro g' c' w2 hown2 hgr2 _ _; have PW := Lib.hid ((PI.out.drew.alloc _).push (l := [.ch s[k + 1]]) hown2 hgr2); obtain ⟨d1, d2, d3, d4⟩ := ((PI.out.drew.alloc _).kept hgr2).facts; clear hown2 hgr2)
        all_goals
          go_wp2
          go_roundw
          (case rel => exact ⟨acc ++ [.ch s[k + 1]], k + 2, _, c', by go_num, by omega, by omega, by simp; omega, Y, PW⟩)
          (case measure => simp [intOf]; omega)
      · have Y := Lib.hid (show wordB s i [] = .error k by rw [HQ.out]; exact wordB_esc0 hlt e92 HG.out hl1)
        clear e34 e36 n10 n32 HQ e92
        go_wp2_with (first
          | (go_at_call 22; refine (stops_any s k _ (by unfold maxLen; omega)).mono ?_; rintro e9 w9 ⟨rfl, rfl⟩; rw [HS.out])
          | (go_at_call 21; refine (goes_any s k _ (by unfold maxLen; omega) (by omega)).mono ?_; rintro e9 w9 ⟨rfl, rfl⟩; rw [HG.out]))
        go_region_with (go_at_call 9; refine (bad_any 5 k _).mono ?_; rintro e8 w8 ⟨rfl, hb8⟩; simp only [faultV]; obtain ⟨f1, f2, f3, f4⟩ := (Blk2.after PI.out.drew.b4 hb8).facts; obtain ⟨f5, f6, f7, f8⟩ := (Blk2.after PI.out.drew.b6 hb8).facts; obtain ⟨f9, f10, f11, f12⟩ := (Blk2.after PI.out.drew.b7 hb8).facts; have HB8 := Lib.hid hb8; clear hb8)
        all_goals
          go_wp2
          refine bodyPost_ret (by simp [results, Tryz.results23, go_sem, f1, f2, f3, f4, f5, f6, f7, f8, ne1, ne2, lt4, lt6]; try rfl) rfl ?_
          have W8 := ((PI.out.drew.after HB8.out).out (.slice ao acc.length cp) (.int .i64 i) (.int .i64 5) (.int .i64 k))
          refine ⟨wordOut_err Y.out rfl, W8.2⟩
    have h92 : ((s[k].toNat : Int) == 92) = false := u8_ne e92
    · have Y := Lib.hid (show wordB s i [] = wordB s (k + 1) (acc ++ [.ch s[k]]) by rw [HQ.out]; exact wordB_ch hlt n10 n32 HG.out e34 e36 e92)
      clear e34 e36 n10 n32 HQ e92
      go_wp2_with (first
        | (go_at_call 22; refine (stops_any s k _ (by unfold maxLen; omega)).mono ?_; rintro e9 w9 ⟨rfl, rfl⟩; rw [HS.out])
        | (go_at_call 21; refine (goes_any s k _ (by unfold maxLen; omega) (by omega)).mono ?_; rintro e9 w9 ⟨rfl, rfl⟩; rw [HG.out]))
      go_region_law (refine step_append_lies _ (by rfl) (.tmp 40) (.tmp 45) 44 (by rfl) (w.heap.size + 3) 75 i0 (.agg #[.int .u8 0, .string ByteArray.empty, .int .i64 0]) 3 32 Tryz.underlying44 hi0 hz0 hz1 hz2 (by rfl) (by decide) (.slice ao acc.length cp) acc.length (atms acc) (by rfl) (PI.out.drew.alloc _).own ⟨wr.heap.size, 0, none⟩ 1 1 [.int .u8 s[k].toNat, .string (S []), .int .i64 0] (by rfl) (by rfl) (cells3_at _ _ _ _ _ _ (by simp)) (by simp [Value.oneCell']) (by decide) (by unfold maxLen; omega) (by omega) (by simp; omega) _ (by rfl) ?_; intro g' c' w2 hown2 hgr2 _ _; have PW := Lib.hid ((PI.out.drew.alloc _).push (l := [.ch s[k]]) hown2 hgr2); obtain ⟨d1, d2, d3, d4⟩ := ((PI.out.drew.alloc _).kept hgr2).facts; clear hown2 hgr2)
      all_goals
        go_wp2
        go_roundw
        (case rel => exact ⟨acc ++ [.ch s[k]], k + 1, _, c', by go_num, by omega, by omega, by simp; omega, Y, PW⟩)
        (case measure => simp [intOf]; omega)
end Go.Proofs.YtflggoddfjmljaaGreatDoor
namespace Go.Proofs.YtflggoddfjmljaaGreatDoor
open Go.RowKit

/-- what 'line' answers -/
def lineOut (w w' : World) (e : Ending) : Except Nat (List WordG × Nat) → Prop
  | .error p => e = .returned (.tuple #[.slice none 0 0, .int .i64 0, faultV 5 p])
  | .ok (ws, n) => ∃ ao c cs, e = .returned (.tuple #[.slice ao ws.length c, .int .i64 n, faultV 0 (-1)]) ∧ w'.ownsRow w.heap.size 46 2 (.slice ao ws.length c) ws.length cs ∧ WordCells w' ws cs
theorem lineOut_err {w w' : World} {e : Ending} {p : Nat} {r : Except Nat (List WordG × Nat)} (h : r = .error p) (he : e = .returned (.tuple #[.slice none 0 0, .int .i64 0, faultV 5 p])) : lineOut w w' e r := by subst h; exact he

/-- 'line' under way -/
structure LInv (B g6 : Nat) (w0 wr : World) (ws : List WordG) (ao : Option Addr) (c : Nat) (cs : List Value) : Prop where
  own : wr.ownsRow (B + 1) 46 2 (.slice ao ws.length c) ws.length cs
  wc : WordCells wr ws cs
  b6 : Blk2 wr g6 (.int .i64 0) (.int .i64 0)
  t6 : BlkT wr g6 27
  bel : Below B w0 wr
  e6 : g6 = B
  sz : B + 1 ≤ wr.heap.size
theorem LInv.after {B g6 : Nat} {w0 wr w' : World} {ws : List WordG} {ao : Option Addr} {c : Nat} {cs : List Value} (h : LInv B g6 w0 wr ws ao c cs) (hb : Below wr.heap.size wr w') : LInv B g6 w0 w' ws ao c cs :=
  ⟨ownsRow_below h.own hb, h.wc.keep (KeepT.below hb), h.b6.after hb, h.t6.after hb, h.bel.trans (hb.mono (by have := h.sz; omega)), h.e6, Nat.le_trans h.sz hb.size⟩
theorem LInv.alloc {B g6 : Nat} {w0 wr : World} {ws : List WordG} {ao : Option Addr} {c : Nat} {cs : List Value} (h : LInv B g6 w0 wr ws ao c cs) (o : Obj) : LInv B g6 w0 (wr.alloc o) ws ao c cs :=
  h.after ((Below.refl _ _).alloc (Nat.le_refl _) o)
theorem LInv.drew {B g6 : Nat} {w0 wr : World} {ws : List WordG} {ao : Option Addr} {c : Nat} {cs : List Value} (h : LInv B g6 w0 wr ws ao c cs) : LInv B g6 w0 wr.drew ws ao c cs :=
  h.after (Below.refl _ _).drew
/-- a word more -/
theorem LInv.push {B g6 : Nat} {w0 wr w2 : World} {ws : List WordG} {y : WordG} {ao ao' : Option Addr} {c c' : Nat} {cs : List Value} {b : Value} (h : LInv B g6 w0 wr ws ao c cs)
    (hy : wr.ownsRow 0 75 3 b y.l.length (atms y.l))
    (hown : w2.ownsRow (B + 1) 46 2 (.slice ao' (ws.length + 1) c') (ws.length + 1) (cs ++ [b, .int .i64 y.at_])) (hg : wr.grownBy w2 (Value.slice ao ws.length c).ownBlock) :
    LInv B g6 w0 w2 (ws ++ [y]) ao' c' (cs ++ [b, .int .i64 y.at_]) := by
  have h1 := h.e6; have h4 := h.sz
  have hk : KeepT 75 wr w2 := KeepT.grown hg h.own (by decide)
  refine ⟨?_, ?_, h.b6.grown hg (own_ne h.own (by omega)), h.t6.grown hg (own_ne h.own (by omega)), h.bel.grown hg (by omega) (fun k hk => by have := own_le h.own k hk; omega), h1, Nat.le_trans h4 hg.size⟩
  · rw [List.length_append]; exact hown
  · exact (h.wc.keep hk).app (ownsRow_keep hy hk)
/-- the fault is written -/
theorem LInv.out {B g6 : Nat} {w0 wr : World} {ws : List WordG} {ao : Option Addr} {c : Nat} {cs : List Value} (h : LInv B g6 w0 wr ws ao c cs) (u1 u2 : Value) :
    ((wr.setCell ⟨g6, 0, none⟩ u1).setCell ⟨g6, 1, none⟩ u2).ownsRow B 46 2 (.slice ao ws.length c) ws.length cs ∧
    WordCells ((wr.setCell ⟨g6, 0, none⟩ u1).setCell ⟨g6, 1, none⟩ u2) ws cs ∧ Below B w0 ((wr.setCell ⟨g6, 0, none⟩ u1).setCell ⟨g6, 1, none⟩ u2) := by
  have h1 := h.e6
  refine ⟨ownsRow_two h.own (by omega) _ _ (by omega), ?_, Below.setCell (Below.setCell h.bel (show B ≤ g6 by omega) _) (show B ≤ g6 by omega) _⟩
  exact h.wc.keep (KeepT.two h.t6 (by decide) u1 u2)

set_option maxRecDepth 100000 in
set_option maxHeartbeats 4000000 in
theorem lineR_any (s : List UInt8) (i : Nat) (w : World) (hs : s.length ≤ 1500) (hi : i < s.length) :
    Calls Tryz.prog 10 #[.string (S s), .int .i64 i] w fun e w' => lineOut w w' e (lineB s i []) ∧ Below w.heap.size w w' := by
  obtain ⟨i0, hi0, hz0, hz1, hz2⟩ := info_parts (show (Tryz.prog.info? 46).map (fun i => (i.zero, i.size, i.bytes)) = some (some (.agg #[.slice none 0 0, .int .i64 0]), 2, 32) by kernel_rfl)
  go_enter Tryz.func10, Tryz.ntmps10
  go_wp2
  have P := Lib.hid (show LInv w.heap.size w.heap.size w (w.alloc (.cells #[.int .i64 0, .int .i64 0] 27)) [] none 0 [] from
    ⟨World.ownsRow_nil _ _ _ _, rfl, Blk2.new w _ _ _, BlkT.new w _ _, (Below.refl _ _).alloc (Nat.le_refl _) _, rfl, by simp⟩)
  generalize hW : w.alloc (.cells #[.int .i64 0, .int .i64 0] 27) = w1 at *
  clear hW
  obtain ⟨g6, e6⟩ : ∃ g, g = w.heap.size := ⟨_, rfl⟩
  rw [← e6]
  replace P := Lib.hid (show LInv w.heap.size g6 w w1 [] none 0 [] by rw [e6]; exact P.out)
  clear e6
  go_loopw [1, 7] (fun x v wr => ∃ (ws : List WordG) (k : Nat) (ao : Option Addr) (c : Nat) (cs : List Value), x = .int .i64 k ∧ v = .slice ao ws.length c ∧ i ≤ k ∧ k ≤ s.length ∧ ws.length ≤ k ∧ Hid (lineB s i [] = lineB s k ws) ∧
      Hid (LInv w.heap.size g6 w wr ws ao c cs)) (fun x _ _ => s.length - (intOf x).toNat)
  case atStart => exact ⟨[], i, none, 0, [], by go_num, rfl, by omega, by omega, by simp, rfl, P⟩
  case round =>
    obtain ⟨ws, k, ao, cp, cs, rfl, rfl, hik, hk, hal, HQ, PI⟩ := hrel
    clear P
    have hszB := PI.out.sz
    have lt6 : g6 < wr.heap.size := PI.out.b6.lt
    cases hst : stopsB s k with
    | true =>
      have Y := Lib.hid (show lineB s i [] = .ok (ws, k + 1) by rw [HQ.out]; exact lineB_stop hst)
      have HG := Lib.hid (goesB_stops hst)
      have HS := Lib.hid hst
      clear hst HQ
      go_wp2_with (first
        | (go_at_call 22; refine (stops_any s k _ (by unfold maxLen; omega)).mono ?_; rintro e9 w9 ⟨rfl, rfl⟩; rw [HS.out])
        | (go_at_call 21; refine (goes_any s k _ (by unfold maxLen; omega) (by omega)).mono ?_; rintro e9 w9 ⟨rfl, rfl⟩; rw [HG.out])
        | (go_at_call 15; refine (fine_any _).mono ?_; rintro e8 w8 ⟨rfl, hb8⟩; simp only [faultV]; obtain ⟨f1, f2, f3, f4⟩ := (PI.out.after hb8).b6.facts; have HB8 := Lib.hid hb8; clear hb8))
      refine bodyPost_ret (by simp [results, Tryz.results10, go_sem, f1, f2, f3, f4, lt6]; try rfl) rfl ?_
      have W8 := (PI.out.after HB8.out).out (.int .i64 0) (.int .i64 (-1))
      refine ⟨?_, W8.2.2⟩
      rw [Y.out]
      exact ⟨_, _, _, rfl, W8.1, W8.2.1⟩
    | false =>
    obtain ⟨hlt, n10⟩ := stopsB_false hst
    have HS := Lib.hid hst
    cases hg : goesB s k with
    | true =>
      obtain ⟨hg1, -, -⟩ := goesB_lt hg
      have Y := Lib.hid (show lineB s i [] = lineB s (k + 2) ws by rw [HQ.out]; exact lineB_goes hst hg)
      have HG := Lib.hid hg
      clear hst hg HQ
      go_wp2_with (first
        | (go_at_call 22; refine (stops_any s k _ (by unfold maxLen; omega)).mono ?_; rintro e9 w9 ⟨rfl, rfl⟩; rw [HS.out])
        | (go_at_call 21; refine (goes_any s k _ (by unfold maxLen; omega) (by omega)).mono ?_; rintro e9 w9 ⟨rfl, rfl⟩; rw [HG.out]))
      go_roundw
      case rel => exact ⟨ws, k + 2, ao, cp, cs, by go_num, rfl, by omega, by omega, by omega, Y, PI⟩
      case measure => simp [intOf]; omega
    | false =>
    have HG := Lib.hid hg
    by_cases c32 : s[k]? = some 32
    · have Y := Lib.hid (show lineB s i [] = lineB s (k + 1) ws by rw [HQ.out]; exact lineB_blank hst hg c32)
      have h32 : ((s[k].toNat : Int) == 32) = true := by
        rw [List.getElem?_eq_getElem hlt] at c32
        rw [Option.some.inj c32]; rfl
      clear hst hg HQ c32 n10
      go_wp2_with (first
        | (go_at_call 22; refine (stops_any s k _ (by unfold maxLen; omega)).mono ?_; rintro e9 w9 ⟨rfl, rfl⟩; rw [HS.out])
        | (go_at_call 21; refine (goes_any s k _ (by unfold maxLen; omega) (by omega)).mono ?_; rintro e9 w9 ⟨rfl, rfl⟩; rw [HG.out]))
      go_roundw
      case rel => exact ⟨ws, k + 1, ao, cp, cs, by go_num, rfl, by omega, by omega, by omega, Y, PI⟩
      case measure => simp [intOf]; omega
    have n32 : s[k] ≠ 32 := fun e => c32 (by rw [List.getElem?_eq_getElem hlt, e])
    have h32 : ((s[k].toNat : Int) == 32) = false := u8_ne n32
    by_cases c35 : s[k]? = some 35 ∧ ws = []
    · obtain ⟨c35, rfl⟩ := c35
      obtain ⟨m1, m2, m3⟩ := commentB_le s k hk
      have m4 : commentB s k ≠ k := by intro e; rw [e, hst] at m3; cases m3
      have Y := Lib.hid (show lineB s i [] = lineB s (commentB s k) [] by rw [HQ.out, lineB_comment hst hg c35, lineB_stop m3])
      have h35 : ((s[k].toNat : Int) == 35) = true := by
        rw [List.getElem?_eq_getElem hlt] at c35
        rw [Option.some.inj c35]; rfl
      have M3 := Lib.hid m3
      clear hst hg HQ c32 c35 n10 n32 m3
      go_wp2_with (first
        | (go_at_call 22; refine (stops_any s k _ (by unfold maxLen; omega)).mono ?_; rintro e9 w9 ⟨rfl, rfl⟩; rw [HS.out])
        | (go_at_call 21; refine (goes_any s k _ (by unfold maxLen; omega) (by omega)).mono ?_; rintro e9 w9 ⟨rfl, rfl⟩; rw [HG.out]))
      go_loopw [1, 9] (fun x b wx => ∃ (j : Nat), x = .int .i64 j ∧ b = .bool (stopsB s j) ∧ k ≤ j ∧ j ≤ s.length ∧ Hid (commentB s j = commentB s k) ∧ wx = wr) (fun x _ _ => s.length - (intOf x).toNat)
      (case atStart => exact ⟨k, by go_num, by rw [HS.out], by omega, by omega, rfl, rfl⟩)
      (case round =>
        obtain ⟨j, rfl, rfl, hkj, hj, HJ, rfl⟩ := hrel
        cases hsj : stopsB s j with
        | true =>
          have E := Lib.hid (show commentB s k = j by rw [← HJ.out]; exact commentB_stop hsj)
          go_wp2
          go_roundw
          case rel => exact ⟨[], j, ao, cp, cs, by go_num, rfl, by omega, by omega, by simp, by rw [← E.out]; exact Y, PI⟩
          case measure => have := E.out; simp [intOf]; omega
        | false =>
          obtain ⟨hjl, -⟩ := stopsB_false hsj
          have E := Lib.hid (show commentB s (j + 1) = commentB s k by rw [← HJ.out]; exact (commentB_on hsj).symm)
          go_wp2_with (go_at_call 22; refine (stops_any s (j + 1) _ (by unfold maxLen; omega)).mono ?_; rintro e9 w9 ⟨rfl, rfl⟩)
          go_roundw
          case rel => exact ⟨j + 1, by go_num, rfl, by omega, by omega, E, trivial⟩
          case measure => simp [intOf]; omega)
    have hways : (((s[k].toNat : Int) == 35) = false) ∨ (((s[k].toNat : Int) == 35) = true ∧ ((ws.length : Int) == 0) = false) := by
      by_cases e : s[k] = 35
      · refine .inr ⟨by rw [e]; rfl, ?_⟩
        rw [beq_eq_false_iff_ne]
        intro e0
        have e1 : ws.length = 0 := by omega
        exact c35 ⟨by rw [List.getElem?_eq_getElem hlt, e], List.eq_nil_of_length_eq_zero e1⟩
      · exact .inl (u8_ne e)
    cases hw : wordB s k [] with
    | error p =>
      have Y := Lib.hid (show lineB s i [] = .error p by rw [HQ.out]; exact lineB_word0 hst hg c32 c35 hw)
      have HV := Lib.hid hw
      clear hst hg HQ c32 c35 n10 n32 hw
      rcases hways with h35 | ⟨h35, hl0⟩
      all_goals
        go_wp2_with (first
          | (go_at_call 22; refine (stops_any s k _ (by unfold maxLen; omega)).mono ?_; rintro e9 w9 ⟨rfl, rfl⟩; rw [HS.out])
          | (go_at_call 21; refine (goes_any s k _ (by unfold maxLen; omega) (by omega)).mono ?_; rintro e9 w9 ⟨rfl, rfl⟩; rw [HG.out])
          | (go_at_call 23; refine (wordR_any s k _ (by omega) hlt).mono ?_; rintro e7 w7 ⟨he7, hb7⟩; rw [HV.out] at he7; obtain ⟨wo, wn, wc, wj, rfl⟩ := he7; simp only [faultV]; have P7 := Lib.hid (PI.out.after hb7); have lt6 := P7.out.b6.lt; obtain ⟨f1, f2, f3, f4⟩ := P7.out.b6.facts; clear hb7))
        go_region
        all_goals
          go_wp2
          refine bodyPost_ret (by simp [results, Tryz.results10, go_sem, f1, f2, f3, f4, lt6]; try rfl) rfl ?_
          have W8 := P7.out.out (.int .i64 5) (.int .i64 p)
          refine ⟨lineOut_err Y.out rfl, ?_⟩
          exact ((W8.2.2.alloc (by simp only [World.size_setCell]; have := P7.out.sz; omega) _).alloc (by simp only [World.size_alloc, World.size_setCell]; have := P7.out.sz; omega) _).drew
    | ok ln =>
      obtain ⟨l, n⟩ := ln
      have Y := Lib.hid (show lineB s i [] = lineB s n (ws ++ [⟨l, k⟩]) by rw [HQ.out]; exact lineB_word hst hg c32 c35 hw)
      obtain ⟨q1, q2, q3⟩ := wordB_le _ _ _ _ _ hw hk
      have q4 := wordB_moves _ _ _ _ _ hw hlt n10 n32 hg
      simp only [List.length_nil, Nat.add_zero] at q3
      have HV := Lib.hid hw
      clear hst hg HQ c32 c35 n10 n32 hw
      rcases hways with h35 | ⟨h35, hl0⟩
      all_goals
        go_wp2_with (first
          | (go_at_call 22; refine (stops_any s k _ (by unfold maxLen; omega)).mono ?_; rintro e9 w9 ⟨rfl, rfl⟩; rw [HS.out])
          | (go_at_call 21; refine (goes_any s k _ (by unfold maxLen; omega) (by omega)).mono ?_; rintro e9 w9 ⟨rfl, rfl⟩; rw [HG.out])
          | (go_at_call 23; refine (wordR_any s k _ (by omega) hlt).mono ?_; rintro e7 w7 ⟨he7, hb7⟩; rw [HV.out] at he7; obtain ⟨wv, rfl, hwv⟩ := he7; simp only [faultV]; obtain ⟨lo, lc, rfl⟩ := ownsRow_form hwv; have HL := Lib.hid (ownsRow_base hwv (Nat.zero_le _)); have P7 := Lib.hid (PI.out.after hb7); have sz7 := P7.out.sz; clear hb7 hwv)
          | (at_builtin; refine wpList_append_own _ rfl _ _ 39 rfl (w.heap.size + 1) 46 i0 (.agg #[.slice none 0 0, .int .i64 0]) 2 32 Tryz.underlying39 hi0 hz0 hz1 hz2 rfl (by decide) _ _ _ rfl (((P7.out.alloc _).alloc _).alloc _).own ⟨_, 0, none⟩ 1 1 [.slice lo l.length lc, .int .i64 k] rfl rfl (cells2_at _ _ _ _ _ (by simp)) (by simp [Value.oneCell']) (by unfold maxLen; omega) (by omega) (by simp; omega) ?_; intro v' w2 hown2 hgr2 _; obtain ⟨ao', c', rfl⟩ := ownsRow_form hown2; have PW := Lib.hid ((((P7.out.alloc _).alloc _).alloc _).push (y := ⟨l, k⟩) (((HL.out.alloc _).alloc _).alloc _) hown2 hgr2); clear hown2 hgr2))
        go_roundw
        (case rel => exact ⟨ws ++ [⟨l, k⟩], n, ao', c', _, by go_num, by simp, by omega, by omega, by simp; omega, Y, PW⟩)
        (case measure => simp [intOf]; omega)
end Go.Proofs.YtflggoddfjmljaaGreatDoor
