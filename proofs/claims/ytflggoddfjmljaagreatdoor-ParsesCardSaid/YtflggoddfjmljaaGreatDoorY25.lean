/-
  The document's answer: a build file: the walk.
-/
import Derived.Test.YtflggoddfjmljaaGreatDoorY22
import Derived.Test.YtflggoddfjmljaaGreatDoorY24
set_option linter.unusedVariables false
set_option linter.unusedSimpArgs false
namespace Go.Proofs.YtflggoddfjmljaaGreatDoor
open Go.RowKit

/-- a fault's variable -/
def BlkF (w : World) (g : Nat) (a b : Value) : Prop := w.heap[g]? = some (Obj.cells #[a, b] tFault (0, 0))
theorem BlkF.new (w : World) (a b : Value) : BlkF (w.alloc (.cells #[a, b] tFault)) w.heap.size a b := heap_alloc_new w _
theorem BlkF.blk2 {w : World} {g : Nat} {a b : Value} (h : BlkF w g a b) : Blk2 w g a b := ⟨_, h⟩
theorem BlkF.blkT {w : World} {g : Nat} {a b : Value} (h : BlkF w g a b) : BlkT w g tFault := ⟨_, h⟩
theorem BlkF.keep {w w' : World} {g : Nat} {a b : Value} (h : BlkF w g a b) (k : KeepT tFault w w') : BlkF w' g a b := k g _ h
theorem BlkF.after {w w' : World} {g : Nat} {a b : Value} (h : BlkF w g a b) (hb : Below w.heap.size w w') : BlkF w' g a b := h.keep (KeepT.below hb)
theorem BlkF.alloc {w : World} {g : Nat} {a b : Value} (h : BlkF w g a b) (o : Obj) : BlkF (w.alloc o) g a b := h.after ((Below.refl _ _).alloc (Nat.le_refl _) o)
theorem StagesR.alloc {B : Nat} {w : World} {st : List StageG} {ao : Option Addr} {c : Nat} (h : StagesR B w st ao c) (o : Obj) : StagesR B (w.alloc o) st ao c := h.after ((Below.refl _ _).alloc (Nat.le_refl _) o)
theorem lineOut_some {w w' : World} {e : Ending} {ws : List WordG} {n : Nat} (h : lineOut w w' e (.ok (ws, n))) (hne : ws ≠ []) :
    ∃ b c, e = .returned (.tuple #[.slice (some ⟨b, 0, none⟩) ws.length c, .int .i64 n, faultV 0 (-1)]) ∧ WordsR w' (some ⟨b, 0, none⟩) ws ∧ ws.length ≤ c ∧ c ≤ maxLen := by
  obtain ⟨ao, c, cs, rfl, h1, h2⟩ := h
  have h1' := h1
  rcases h1.2 with ⟨e1, e2⟩ | ⟨g, cap, cur, e1, hg, hh, hn, hm, r⟩
  · exact absurd (List.eq_nil_of_length_eq_zero e2) hne
  · simp only [Value.slice.injEq] at e1
    obtain ⟨rfl, -, rfl⟩ := e1
    exact ⟨g, c, rfl, ⟨cs, RdT.of_own h1', h2⟩, hn, hm⟩

/-- what 'Parse' answers -/
def parseOut (B : Nat) (w' : World) (e : Ending) : Except Flt (List StageG) → Prop
  | .error (f, p) => e = .returned (.tuple #[.slice none 0 0, faultV f p])
  | .ok st => ∃ ao c, e = .returned (.tuple #[.slice ao st.length c, faultV 0 (-1)]) ∧ StagesR B w' st ao c ∧ StB 24 st ∧ st ≠ [] ∧ st.length ≤ 5
theorem parseOut_err {B : Nat} {w' : World} {e : Ending} {f p : Nat} {r : Except Flt (List StageG)} (h : r = .error (f, p)) (he : e = .returned (.tuple #[.slice none 0 0, faultV f p])) : parseOut B w' e r := by subst h; exact he
theorem parseOut_ok {B : Nat} {w' : World} {e : Ending} {st : List StageG} {r : Except Flt (List StageG)} {ao : Option Addr} {n c : Nat} (h : r = .ok st) (hn : n = st.length) (he : e = .returned (.tuple #[.slice ao n c, faultV 0 (-1)])) (hw : StagesR B w' st ao c) (hb : StB 24 st) (hne : st ≠ []) (h5 : st.length ≤ 5) : parseOut B w' e r := by subst h; subst hn; exact ⟨ao, c, he, hw, hb, hne, h5⟩
theorem WordsR.zero {w : World} {b : Nat} {ws : List WordG} (h : WordsR w (some ⟨b, 0, none⟩) ws) (hne : ws ≠ []) :
    b < w.heap.size ∧ ∃ ao c, w.cell? ⟨b, 0, none⟩ = some (.slice ao (nth ws 0).l.length c) ∧ w.cell? ⟨b, 1, none⟩ = some (.int .i64 (nth ws 0).at_) ∧ w.ownsRow 0 tAtom 3 (.slice ao (nth ws 0).l.length c) (nth ws 0).l.length (atms (nth ws 0).l) := by
  have := h.at 0 (by cases ws; exact absurd rfl hne; simp)
  simpa using this
theorem instrB_err0 {st : List StageG} {ws : List WordG} (h : boundsB (nth ws 0).text = none) : instrB st ws = .error (5, (nth ws 0).at_) := by unfold instrB; rw [h]
theorem instrB_some {st : List StageG} {ws : List WordG} {lo hi : Nat} (h : boundsB (nth ws 0).text = some (lo, hi)) : instrB st ws = if (st = [] ∧ (nth ws 0).text ≠ wFROM) ∨ ws.length < lo + 1 ∨ hi + 1 < ws.length then .error (5, (nth ws 0).at_) else if (nth ws 0).text = wFROM then fromB st ws else stepB st (nth ws 0).text ws := by unfold instrB; rw [h]

/-- 'Parse' under way, behind the look at the bytes -/
structure PInv (w0 : World) (g3 : Nat) (w : World) (st : List StageG) (ao : Option Addr) (c n : Nat) : Prop where
  rows : StagesR w0.heap.size w st ao c
  b3 : BlkF w g3 (.int .i64 0) (.int .i64 0)
  bel : Below w0.heap.size w0 w
  e3 : g3 = w0.heap.size
  stb : StB n st
  len : st.length ≤ 5
theorem PInv.after {w0 w w' : World} {g3 : Nat} {st : List StageG} {ao : Option Addr} {c n : Nat} (h : PInv w0 g3 w st ao c n) (hb : Below w.heap.size w w') : PInv w0 g3 w' st ao c n :=
  ⟨h.rows.after hb, h.b3.after hb, h.bel.trans (hb.mono h.bel.size), h.e3, h.stb, h.len⟩
theorem PInv.alloc {w0 w : World} {g3 : Nat} {st : List StageG} {ao : Option Addr} {c n : Nat} (h : PInv w0 g3 w st ao c n) (o : Obj) : PInv w0 g3 (w.alloc o) st ao c n := h.after ((Below.refl _ _).alloc (Nat.le_refl _) o)
theorem PInv.out {w0 w : World} {g3 : Nat} {st : List StageG} {ao : Option Addr} {c n : Nat} (h : PInv w0 g3 w st ao c n) (u1 u2 : Value) :
    StagesR w0.heap.size ((w.setCell ⟨g3, 0, none⟩ u1).setCell ⟨g3, 1, none⟩ u2) st ao c ∧ Below w0.heap.size w0 ((w.setCell ⟨g3, 0, none⟩ u1).setCell ⟨g3, 1, none⟩ u2) := by
  have := h.e3
  exact ⟨h.rows.two h.b3.blkT _ _, Below.setCell (Below.setCell h.bel (show w0.heap.size ≤ g3 by omega) _) (show w0.heap.size ≤ g3 by omega) _⟩
theorem PInv.facts {w0 w : World} {g3 : Nat} {st : List StageG} {ao : Option Addr} {c n : Nat} (h : PInv w0 g3 w st ao c n) : w.cell? ⟨g3, 0, none⟩ = some (.int .i64 0) ∧ w.cell? ⟨g3, 1, none⟩ = some (.int .i64 0) ∧ w.frozen? ⟨g3, 0, none⟩ = false ∧ w.frozen? ⟨g3, 1, none⟩ = false ∧ g3 < w.heap.size := by
  obtain ⟨a, b, c, d⟩ := h.b3.blk2.facts
  exact ⟨a, b, c, d, h.b3.blk2.lt⟩
/-- a fault is stored in the line's own variable -/
theorem PInv.stored {w0 w : World} {g3 g10 : Nat} {st : List StageG} {ao : Option Addr} {c n : Nat} {u v : Value} (h : PInv w0 g3 w st ao c n) (hF : BlkF w g10 u v) (hne : g3 < g10) (u1 u2 : Value) :
    PInv w0 g3 ((w.setCell ⟨g10, 0, none⟩ u1).setCell ⟨g10, 1, none⟩ u2) st ao c n ∧ BlkF ((w.setCell ⟨g10, 0, none⟩ u1).setCell ⟨g10, 1, none⟩ u2) g10 u1 u2 := by
  have e3 := h.e3
  refine ⟨⟨h.rows.two hF.blkT _ _, ?_, Below.setCell (Below.setCell h.bel (show w0.heap.size ≤ g10 by omega) _) (show w0.heap.size ≤ g10 by omega) _, e3, h.stb, h.len⟩, ?_⟩
  · unfold BlkF
    rw [heap_setCell_other _ _ g3 _ (by show g3 ≠ g10; omega), heap_setCell_other _ _ g3 _ (by show g3 ≠ g10; omega)]; exact h.b3
  · have h1 := heap_setCell_same w g10 0 _ _ u1 hF
    have h2 := heap_setCell_same _ g10 1 _ _ u2 h1
    exact h2
/-- behind 'from' or 'step' -/
theorem PInv.turned {w0 w w' : World} {g3 : Nat} {st st' : List StageG} {ao ao' : Option Addr} {c c' n m : Nat} (h : PInv w0 g3 w st ao c n) (hs : StagesR w0.heap.size w' st' ao' c') (hb : Below w0.heap.size w w') (hk : KeepX w w') (hn : StB m st') (h5 : st'.length ≤ 5) : PInv w0 g3 w' st' ao' c' m :=
  ⟨hs, h.b3.keep (hk _ (by decide) (by decide) (by decide)), h.bel.trans hb, h.e3, hn, h5⟩
theorem PInv.none {w0 w w' : World} {g3 : Nat} {st : List StageG} {ao : Option Addr} {c n : Nat} (h : PInv w0 g3 w st ao c n) (hb : Below w0.heap.size w w') (hk : KeepX w w') : PInv w0 g3 w' [] none 0 n :=
  ⟨StagesR.nil _ _ (Nat.le_trans h.bel.size hb.size), h.b3.keep (hk _ (by decide) (by decide) (by decide)), h.bel.trans hb, h.e3, (fun x hx => by cases hx), by simp⟩

set_option maxRecDepth 100000 in
set_option maxHeartbeats 20000000 in
theorem parseR_any (s : List UInt8) (w : World) (hs : s.length ≤ maxLen) :
    Calls Tryz.prog 5 #[.string (S s)] w fun e w' => parseOut w.heap.size w' e (parseB s) ∧ Below w.heap.size w w' := by
  unfold maxLen at hs
  by_cases hbig : 1500 < s.length
  · have Y := Lib.hid (show parseB s = .error (10, 1500) by unfold parseB; rw [if_pos hbig])
    have P := Lib.hid (show PInv w w.heap.size (w.alloc (.cells #[.int .i64 0, .int .i64 0] tFault)) [] none 0 0 from ⟨StagesR.nil _ _ (by simp), BlkF.new w _ _, (Below.refl _ _).alloc (Nat.le_refl _) _, rfl, (fun x hx => by cases hx), by simp⟩)
    go_enter Tryz.func5, Tryz.ntmps5
    go_wp2_with (go_at_call 9; refine (bad_any _ _ _).mono ?_; rintro e8 w8 ⟨rfl, hb8⟩; simp only [faultV]; have PI := Lib.hid (P.out.after hb8); obtain ⟨d0, d1, d2, d3, d4⟩ := PI.out.facts; clear hb8)
    refine bodyPost_ret (by simp [results, Tryz.results5, go_sem, d0, d1, d4]; try rfl) rfl ?_
    exact ⟨parseOut_err Y.out rfl, (PI.out.out _ _).2⟩
  have hs15 : s.length ≤ 1500 := by omega
  clear hbig
  have P := Lib.hid (show PInv w w.heap.size (w.alloc (.cells #[.int .i64 0, .int .i64 0] tFault)) [] none 0 0 from ⟨StagesR.nil _ _ (by simp), BlkF.new w _ _, (Below.refl _ _).alloc (Nat.le_refl _) _, rfl, (fun x hx => by cases hx), by simp⟩)
  go_enter Tryz.func5, Tryz.ntmps5
  go_wp2
  generalize hW : w.alloc (.cells #[.int .i64 0, .int .i64 0] tFault) = w1 at *
  clear hW
  obtain ⟨g3, e3⟩ : ∃ g, g = w.heap.size := ⟨_, rfl⟩
  rw [← e3]
  replace P := Lib.hid (show PInv w g3 w1 [] none 0 0 by rw [e3]; exact P.out)
  clear e3
  go_loop [4] (fun i => ∃ k : Nat, k ≤ s.length ∧ i = .int .i64 k ∧ Hid (∀ j (hj : j < s.length), j < k → byteB s[j] = true)) (fun i => s.length - (intOf i).toNat)
  case atStart => exact ⟨0, by omega, rfl, by intro j hj h; omega⟩
  case round =>
    obtain ⟨k, hk, rfl, hall⟩ := hrel
    by_cases hlt : k < s.length
    · have hb := byteB_iff s[k]
      cases hok : byteB s[k]
      · have Y := Lib.hid (show parseB s = .error (5, k) by
          refine parseB_bad hs15 ?_
          · rw [List.findIdx?_eq_some_iff_getElem]
            exact ⟨hlt, by simp [hok], fun j hj => by simp [hall.out j (by omega) hj]⟩)
        have hn : (s[k].toNat : Int) ≠ 10 ∧ ((s[k].toNat : Int) < 32 ∨ 126 < (s[k].toNat : Int)) := by
          rw [hok] at hb
          have hno : ¬ ((s[k].toNat : Int) = 10 ∨ (32 ≤ (s[k].toNat : Int) ∧ (s[k].toNat : Int) ≤ 126)) := fun h => by have := hb.2 h; cases this
          omega
        obtain ⟨n1, n2⟩ := hn
        have n1' : ((s[k].toNat : Int) != 10) = true := by rw [bne_iff_ne]; exact n1
        clear hok hb hall n1
        rcases n2 with n2 | n2
        all_goals
          go_wp2_with (go_at_call 9; refine (bad_any _ _ _).mono ?_; rintro e8 w8 ⟨rfl, hb8⟩; simp only [faultV]; have PI := Lib.hid (P.out.after hb8); obtain ⟨d0, d1, d2, d3, d4⟩ := PI.out.facts; clear hb8)
          refine bodyPost_ret (by simp [results, Tryz.results5, go_sem, d0, d1, d4]; try rfl) rfl ?_
          exact ⟨parseOut_err Y.out rfl, (PI.out.out _ _).2⟩
      · have HA := Lib.hid (show ∀ j (hj : j < s.length), j < k + 1 → byteB s[j] = true by
          intro j hj h
          rcases Nat.lt_or_ge j k with h1 | h1
          · exact hall.out j hj h1
          · obtain rfl : j = k := by omega
            exact hok)
        have hn := hb.1 hok
        clear hok hb hall
        go_wp2
        all_goals first
          | (go_round; (case rel => exact ⟨k + 1, by omega, by go_num, HA⟩); (case measure => simp [intOf]; omega))
          | (exfalso; simp only [Bool.not_eq_true', Bool.not_eq_false', bne_iff_ne, bne_eq_false_iff_eq, beq_iff_eq, beq_eq_false_iff_ne, decide_eq_true_eq, decide_eq_false_iff_not, ne_eq] at *; omega)
    · have HQ := Lib.hid (show parseB s = fileB s 0 [] 0 by
        refine parseB_good hs15 ?_
        rw [List.findIdx?_eq_none_iff]
        intro y hy
        obtain ⟨j, hj, rfl⟩ := List.getElem_of_mem hy
        simp [hall.out j hj (by omega)])
      clear hall
      go_wp2
      go_loopw [5, 6, 7] (fun v m i wr => ∃ (st : List StageG) (ao : Option Addr) (c n k : Nat), v = .slice ao st.length c ∧ m = .int .i64 n ∧ i = .int .i64 k ∧ n ≤ 24 ∧ (k ≤ s.length + 1) ∧ Hid (parseB s = fileB s k st n) ∧ Hid (PInv w g3 wr st ao c n)) (fun _ _ i _ => s.length + 1 - (intOf i).toNat)
      (case atStart => exact ⟨[], none, 0, 0, 0, rfl, rfl, by go_num, by omega, by omega, HQ, P⟩)
      (case round =>
        obtain ⟨st, ao, c, n, j, rfl, rfl, rfl, hn24, hj, HQ, PI⟩ := hrel
        clear P
        by_cases hlt : j < s.length
        · cases hln : lineB s j [] with
          | error p =>
            have Y := Lib.hid (show parseB s = .error (5, p) by rw [HQ.out]; exact fileB_line0 hlt hln)
            have HLN := Lib.hid hln
            clear hln HQ
            go_wp2_with (first
              | (go_at_call 10; refine (lineR_any s j _ (by omega) hlt).mono ?_; rintro e1 w1 ⟨he1, hb2⟩; rw [HLN.out] at he1; obtain rfl := he1; simp only [faultV]; have PI := Lib.hid (PI.out.after hb2); obtain ⟨d0, d1, d2, d3, d4⟩ := PI.out.facts; clear hb2))
            go_region
            all_goals
              go_wp2
              refine bodyPost_ret (by simp [results, Tryz.results5, go_sem, d0, d1, d4]; try rfl) rfl ?_
              refine ⟨parseOut_err Y.out rfl, ?_⟩
              exact ((PI.out.out _ _).2.alloc (by simp only [World.size_setCell]; exact PI.out.bel.size) _).drew
          | ok wn =>
            obtain ⟨ws, m⟩ := wn
            have hle := lineB_le _ _ _ _ _ hln
            have hm1 : j < m ∧ m ≤ s.length + 1 := ⟨hle.1, (hle.2 (by omega)).1⟩
            obtain ⟨hm1, hm2⟩ := hm1
            by_cases hne : ws = []
            · subst hne
              have Y := Lib.hid (show parseB s = fileB s m st n by rw [HQ.out]; exact fileB_nil hlt hln)
              have HLN := Lib.hid hln
              clear hln HQ hle
              go_wp2_with (first
                | (go_at_call 10; refine (lineR_any s j _ (by omega) hlt).mono ?_; rintro e1 w1 ⟨he1, hb2⟩; rw [HLN.out] at he1; obtain ⟨lo, lc, lcs, rfl, -, -⟩ := he1; simp only [faultV, List.length_nil]; have PI := Lib.hid (PI.out.after hb2); clear hb2))
              go_roundw
              (case rel => exact ⟨st, ao, c, n, m, rfl, rfl, by go_num, hn24, hm2, Y, Lib.hid (PI.out.alloc _)⟩)
              (case measure => simp [intOf]; omega)
            have hgl := lineB_good _ _ _ _ _ hln (fun x hx => by cases hx)
            have HG := Lib.hid (show GoodW ws from fun x hx => ⟨(hgl x hx).1, by have := (hgl x hx).2.1; omega⟩)
            have hpos : 0 < ws.length := by cases ws; exact absurd rfl hne; simp
            have hw0 : ((ws.length : Int) == 0) = false := by rw [beq_eq_false_iff_ne]; omega
            have hlenw : ws.length ≤ 1600 := by have := (hle.2 (by omega)).2; simp at this; omega
            have HG0 := Lib.hid (HG.out.nth 0 hpos)
            have HNE := Lib.hid hne
            have HLN := Lib.hid hln
            have HQL := Lib.hid (show ∀ f, instrB st ws = .error f → parseB s = .error f from fun f hf => by rw [HQ.out]; exact fileB_instr0 hlt hln hne hf)
            have HQB := Lib.hid (show ∀ st', instrB st ws = .ok st' → 24 < n + 1 → parseB s = .error (10, (nth ws 0).at_) from fun st' hf hb => by rw [HQ.out]; exact fileB_bound hlt hln hne hf hb)
            have HQN := Lib.hid (show ∀ st', instrB st ws = .ok st' → ¬ 24 < n + 1 → parseB s = fileB s m st' (n + 1) from fun st' hf hb => by rw [HQ.out]; exact fileB_instr hlt hln hne hf hb)
            clear hgl hne hln HQ hle
            cases hbd : boundsB (nth ws 0).text with
            | none =>
              have Y := Lib.hid (HQL.out _ (instrB_err0 (st := st) hbd))
              have HBV := Lib.hid (show boundsV (nth ws 0).text = .tuple #[.int .i64 0, .int .i64 0, .bool false] by unfold boundsV; rw [hbd])
              clear hbd
              go_wp2_with (first
                | (go_at_call 10; refine (lineR_any s j _ (by omega) hlt).mono ?_; rintro e1 w1 ⟨he1, hb2⟩; rw [HLN.out] at he1; obtain ⟨b, lc, rfl, hw1, hlc, hlm⟩ := lineOut_some he1 HNE.out; unfold maxLen at hlm; obtain ⟨hbl, a0, c0, m0, m0', r0⟩ := hw1.zero HNE.out; have HW := Lib.hid hw1; have HR0 := Lib.hid r0; have F := Lib.hid (show ∀ wx, Below w1.heap.size w1 wx → wx.cell? ⟨b, 0, none⟩ = some (.slice a0 (nth ws 0).l.length c0) ∧ wx.cell? ⟨b, 1, none⟩ = some (.int .i64 (nth ws 0).at_) from fun wx hx => ⟨(hx.cell (p := ⟨b, 0, none⟩) hbl).trans m0, (hx.cell (p := ⟨b, 1, none⟩) hbl).trans m0'⟩); simp only [faultV]; have PI := Lib.hid (PI.out.after hb2); have L3 := Lib.hid PI.out.facts.2.2.2.2; clear hb2 hw1 r0 he1)
                | (go_at_call 11; refine (plainR_any _ _ _ _ HG0.out.1 (by have := HG0.out.2; omega) (HR0.out.alloc _)).mono ?_; rintro e2 w2 ⟨rfl, hb2⟩; have PI := Lib.hid ((PI.out.alloc _).after hb2); have FB := Lib.hid ((BlkF.new _ _ _).after hb2); have HB := Lib.hid (((Below.refl _ _).alloc (Nat.le_refl _) _).trans (hb2.mono (by simp))); obtain ⟨n0, n1⟩ := F.out _ HB.out; have lt10 := FB.out.blk2.lt; obtain ⟨f1, f2, f3, f4⟩ := FB.out.blk2.facts; have lt3 := PI.out.facts.2.2.2.2; clear hb2)
                | (go_at_call 12; refine (boundsR_any (nth ws 0).text _).mono ?_; rintro e4 w4 ⟨rfl, rfl⟩; rw [HBV.out])
                | (go_at_call 9; refine (bad_any _ _ _).mono ?_; rintro e8 w8 ⟨rfl, hb8⟩; simp only [faultV]; have PI := Lib.hid (PI.out.after hb8); obtain ⟨d0, d1, d2, d3, d4⟩ := PI.out.facts; clear hb8))
              refine bodyPost_ret (by simp [results, Tryz.results5, go_sem, d0, d1, d4]; try rfl) rfl ?_
              exact ⟨parseOut_err Y.out rfl, (PI.out.out _ _).2⟩
            | some lh =>
              obtain ⟨lo, hi⟩ := lh
              obtain ⟨hb1, hb2, hb3⟩ := boundsB_le hbd
              have HBV := Lib.hid (show boundsV (nth ws 0).text = .tuple #[.int .i64 lo, .int .i64 hi, .bool true] by unfold boundsV; rw [hbd])
              have HIN := Lib.hid (instrB_some (st := st) hbd)
              have HB3 := Lib.hid hb3
              have hst5 := PI.out.len
              clear hbd hb3
              cases hfr : ((nth ws 0).text == [70, 82, 79, 77])
              · have HFR := Lib.hid (show (nth ws 0).text ≠ wFROM by intro e; rw [e] at hfr; cases hfr)
                by_cases hst0 : st = []
                · have hst0' : ((st.length : Int) == 0) = true := by rw [hst0]; rfl
                  have Y := Lib.hid (HQL.out _ (HIN.out.trans (if_pos (.inl ⟨hst0, HFR.out⟩))))
                  clear hst0
                  go_wp2_with (first
                    | (go_at_call 10; refine (lineR_any s j _ (by omega) hlt).mono ?_; rintro e1 w1 ⟨he1, hb2⟩; rw [HLN.out] at he1; obtain ⟨b, lc, rfl, hw1, hlc, hlm⟩ := lineOut_some he1 HNE.out; unfold maxLen at hlm; obtain ⟨hbl, a0, c0, m0, m0', r0⟩ := hw1.zero HNE.out; have HW := Lib.hid hw1; have HR0 := Lib.hid r0; have F := Lib.hid (show ∀ wx, Below w1.heap.size w1 wx → wx.cell? ⟨b, 0, none⟩ = some (.slice a0 (nth ws 0).l.length c0) ∧ wx.cell? ⟨b, 1, none⟩ = some (.int .i64 (nth ws 0).at_) from fun wx hx => ⟨(hx.cell (p := ⟨b, 0, none⟩) hbl).trans m0, (hx.cell (p := ⟨b, 1, none⟩) hbl).trans m0'⟩); simp only [faultV]; have PI := Lib.hid (PI.out.after hb2); have L3 := Lib.hid PI.out.facts.2.2.2.2; clear hb2 hw1 r0 he1)
                    | (go_at_call 11; refine (plainR_any _ _ _ _ HG0.out.1 (by have := HG0.out.2; omega) (HR0.out.alloc _)).mono ?_; rintro e2 w2 ⟨rfl, hb2⟩; have PI := Lib.hid ((PI.out.alloc _).after hb2); have FB := Lib.hid ((BlkF.new _ _ _).after hb2); have HB := Lib.hid (((Below.refl _ _).alloc (Nat.le_refl _) _).trans (hb2.mono (by simp))); obtain ⟨n0, n1⟩ := F.out _ HB.out; have lt10 := FB.out.blk2.lt; obtain ⟨f1, f2, f3, f4⟩ := FB.out.blk2.facts; have lt3 := PI.out.facts.2.2.2.2; clear hb2)
                    | (go_at_call 12; refine (boundsR_any (nth ws 0).text _).mono ?_; rintro e4 w4 ⟨rfl, rfl⟩; rw [HBV.out])
                    | (go_at_call 9; refine (bad_any _ _ _).mono ?_; rintro e8 w8 ⟨rfl, hb8⟩; simp only [faultV]; have PI := Lib.hid (PI.out.after hb8); obtain ⟨d0, d1, d2, d3, d4⟩ := PI.out.facts; clear hb8))
                  refine bodyPost_ret (by simp [results, Tryz.results5, go_sem, d0, d1, d4]; try rfl) rfl ?_
                  exact ⟨parseOut_err Y.out rfl, (PI.out.out _ _).2⟩
                · have hst0' : ((st.length : Int) == 0) = false := by rw [beq_eq_false_iff_ne]; intro e; exact hst0 (List.eq_nil_of_length_eq_zero (by omega))
                  have HS0 := Lib.hid hst0
                  clear hst0
                  by_cases hlo : ws.length < lo + 1
                  · have Y := Lib.hid (HQL.out _ (HIN.out.trans (if_pos (.inr (.inl hlo)))))
                    have hlo' : (ws.length : Int) - 1 < (lo : Int) := by omega
                    clear hlo
                    go_wp2_with (first
                      | (go_at_call 10; refine (lineR_any s j _ (by omega) hlt).mono ?_; rintro e1 w1 ⟨he1, hb2⟩; rw [HLN.out] at he1; obtain ⟨b, lc, rfl, hw1, hlc, hlm⟩ := lineOut_some he1 HNE.out; unfold maxLen at hlm; obtain ⟨hbl, a0, c0, m0, m0', r0⟩ := hw1.zero HNE.out; have HW := Lib.hid hw1; have HR0 := Lib.hid r0; have F := Lib.hid (show ∀ wx, Below w1.heap.size w1 wx → wx.cell? ⟨b, 0, none⟩ = some (.slice a0 (nth ws 0).l.length c0) ∧ wx.cell? ⟨b, 1, none⟩ = some (.int .i64 (nth ws 0).at_) from fun wx hx => ⟨(hx.cell (p := ⟨b, 0, none⟩) hbl).trans m0, (hx.cell (p := ⟨b, 1, none⟩) hbl).trans m0'⟩); simp only [faultV]; have PI := Lib.hid (PI.out.after hb2); have L3 := Lib.hid PI.out.facts.2.2.2.2; clear hb2 hw1 r0 he1)
                      | (go_at_call 11; refine (plainR_any _ _ _ _ HG0.out.1 (by have := HG0.out.2; omega) (HR0.out.alloc _)).mono ?_; rintro e2 w2 ⟨rfl, hb2⟩; have PI := Lib.hid ((PI.out.alloc _).after hb2); have FB := Lib.hid ((BlkF.new _ _ _).after hb2); have HB := Lib.hid (((Below.refl _ _).alloc (Nat.le_refl _) _).trans (hb2.mono (by simp))); obtain ⟨n0, n1⟩ := F.out _ HB.out; have lt10 := FB.out.blk2.lt; obtain ⟨f1, f2, f3, f4⟩ := FB.out.blk2.facts; have lt3 := PI.out.facts.2.2.2.2; clear hb2)
                      | (go_at_call 12; refine (boundsR_any (nth ws 0).text _).mono ?_; rintro e4 w4 ⟨rfl, rfl⟩; rw [HBV.out])
                      | (go_at_call 9; refine (bad_any _ _ _).mono ?_; rintro e8 w8 ⟨rfl, hb8⟩; simp only [faultV]; have PI := Lib.hid (PI.out.after hb8); obtain ⟨d0, d1, d2, d3, d4⟩ := PI.out.facts; clear hb8))
                    refine bodyPost_ret (by simp [results, Tryz.results5, go_sem, d0, d1, d4]; try rfl) rfl ?_
                    exact ⟨parseOut_err Y.out rfl, (PI.out.out _ _).2⟩
                  have hlo' : (lo : Int) ≤ (ws.length : Int) - 1 := by omega
                  by_cases hhi : hi + 1 < ws.length
                  · have Y := Lib.hid (HQL.out _ (HIN.out.trans (if_pos (.inr (.inr hhi)))))
                    have hhi' : (hi : Int) < (ws.length : Int) - 1 := by omega
                    clear hhi hlo
                    go_wp2_with (first
                      | (go_at_call 10; refine (lineR_any s j _ (by omega) hlt).mono ?_; rintro e1 w1 ⟨he1, hb2⟩; rw [HLN.out] at he1; obtain ⟨b, lc, rfl, hw1, hlc, hlm⟩ := lineOut_some he1 HNE.out; unfold maxLen at hlm; obtain ⟨hbl, a0, c0, m0, m0', r0⟩ := hw1.zero HNE.out; have HW := Lib.hid hw1; have HR0 := Lib.hid r0; have F := Lib.hid (show ∀ wx, Below w1.heap.size w1 wx → wx.cell? ⟨b, 0, none⟩ = some (.slice a0 (nth ws 0).l.length c0) ∧ wx.cell? ⟨b, 1, none⟩ = some (.int .i64 (nth ws 0).at_) from fun wx hx => ⟨(hx.cell (p := ⟨b, 0, none⟩) hbl).trans m0, (hx.cell (p := ⟨b, 1, none⟩) hbl).trans m0'⟩); simp only [faultV]; have PI := Lib.hid (PI.out.after hb2); have L3 := Lib.hid PI.out.facts.2.2.2.2; clear hb2 hw1 r0 he1)
                      | (go_at_call 11; refine (plainR_any _ _ _ _ HG0.out.1 (by have := HG0.out.2; omega) (HR0.out.alloc _)).mono ?_; rintro e2 w2 ⟨rfl, hb2⟩; have PI := Lib.hid ((PI.out.alloc _).after hb2); have FB := Lib.hid ((BlkF.new _ _ _).after hb2); have HB := Lib.hid (((Below.refl _ _).alloc (Nat.le_refl _) _).trans (hb2.mono (by simp))); obtain ⟨n0, n1⟩ := F.out _ HB.out; have lt10 := FB.out.blk2.lt; obtain ⟨f1, f2, f3, f4⟩ := FB.out.blk2.facts; have lt3 := PI.out.facts.2.2.2.2; clear hb2)
                      | (go_at_call 12; refine (boundsR_any (nth ws 0).text _).mono ?_; rintro e4 w4 ⟨rfl, rfl⟩; rw [HBV.out])
                      | (go_at_call 9; refine (bad_any _ _ _).mono ?_; rintro e8 w8 ⟨rfl, hb8⟩; simp only [faultV]; have PI := Lib.hid (PI.out.after hb8); obtain ⟨d0, d1, d2, d3, d4⟩ := PI.out.facts; clear hb8))
                    refine bodyPost_ret (by simp [results, Tryz.results5, go_sem, d0, d1, d4]; try rfl) rfl ?_
                    exact ⟨parseOut_err Y.out rfl, (PI.out.out _ _).2⟩
                  have hhi' : (ws.length : Int) - 1 ≤ (hi : Int) := by omega
                  have HINS := Lib.hid (show instrB st ws = stepB st (nth ws 0).text ws from HIN.out.trans ((if_neg (by rintro (⟨h, _⟩ | h | h); exact HS0.out h; omega; omega)).trans (if_neg HFR.out)))
                  have h2l : 2 ≤ ws.length := by omega
                  have h4l : ws.length ≤ 4 := by omega
                  have hcp : (nth ws 0).text = wCOPY → 3 ≤ ws.length := fun h => by have := HB3.out h; omega
                  have HCP := Lib.hid hcp
                  clear hlo hhi hcp
                  cases hrs : stepB st (nth ws 0).text ws with
                  | error fp =>
                    obtain ⟨f, p⟩ := fp
                    have Y := Lib.hid (HQL.out _ (HINS.out.trans hrs))
                    have HRS := Lib.hid hrs
                    have hf : ((f : Int) != 0) = true := by rcases stepB_err hrs with rfl | rfl | rfl <;> decide
                    clear hrs
                    go_wp2_with (first
                      | (go_at_call 10; refine (lineR_any s j _ (by omega) hlt).mono ?_; rintro e1 w1 ⟨he1, hb2⟩; rw [HLN.out] at he1; obtain ⟨b, lc, rfl, hw1, hlc, hlm⟩ := lineOut_some he1 HNE.out; unfold maxLen at hlm; obtain ⟨hbl, a0, c0, m0, m0', r0⟩ := hw1.zero HNE.out; have HW := Lib.hid hw1; have HR0 := Lib.hid r0; have F := Lib.hid (show ∀ wx, Below w1.heap.size w1 wx → wx.cell? ⟨b, 0, none⟩ = some (.slice a0 (nth ws 0).l.length c0) ∧ wx.cell? ⟨b, 1, none⟩ = some (.int .i64 (nth ws 0).at_) from fun wx hx => ⟨(hx.cell (p := ⟨b, 0, none⟩) hbl).trans m0, (hx.cell (p := ⟨b, 1, none⟩) hbl).trans m0'⟩); simp only [faultV]; have PI := Lib.hid (PI.out.after hb2); have L3 := Lib.hid PI.out.facts.2.2.2.2; clear hb2 hw1 r0 he1)
                      | (go_at_call 11; refine (plainR_any _ _ _ _ HG0.out.1 (by have := HG0.out.2; omega) (HR0.out.alloc _)).mono ?_; rintro e2 w2 ⟨rfl, hb2⟩; have PI := Lib.hid ((PI.out.alloc _).after hb2); have FB := Lib.hid ((BlkF.new _ _ _).after hb2); have HB := Lib.hid (((Below.refl _ _).alloc (Nat.le_refl _) _).trans (hb2.mono (by simp))); obtain ⟨n0, n1⟩ := F.out _ HB.out; have lt10 := FB.out.blk2.lt; obtain ⟨f1, f2, f3, f4⟩ := FB.out.blk2.facts; have lt3 := PI.out.facts.2.2.2.2; clear hb2)
                      | (go_at_call 12; refine (boundsR_any (nth ws 0).text _).mono ?_; rintro e4 w4 ⟨rfl, rfl⟩; rw [HBV.out])
                      | (go_at_call 14; refine (stepR_any st (nth ws 0).text ws w.heap.size n b 0 c lc ao _ PI.out.rows HS0.out (by omega) (by omega) PI.out.stb (HW.out.keep (KeepT.below HB.out) (KeepT.below HB.out)) HG.out h2l h4l hlc (by unfold maxLen; omega) HCP.out).mono ?_; rintro e3 w3 ⟨he3, hb3, hk3⟩; rw [HRS.out] at he3; obtain rfl := he3; simp only [faultV]; have FB := Lib.hid (FB.out.keep (hk3 _ (by decide) (by decide) (by decide))); have PI := Lib.hid (PI.out.none hb3 hk3); obtain ⟨f1, f2, f3, f4⟩ := FB.out.blk2.facts; have lt10 := FB.out.blk2.lt; obtain ⟨d0, d1, d2, d3, d4⟩ := PI.out.facts; have ne3 : g3 < w1.heap.size := L3.out; have ne3' : g3 ≠ w1.heap.size := (by omega); have ne3'' : w1.heap.size ≠ g3 := (by omega); clear hb3 hk3))
                    go_region
                    all_goals
                      go_wp2
                      refine bodyPost_ret (by simp [results, Tryz.results5, go_sem, d0, d1, d4, ne3', ne3'']; try rfl) rfl ?_
                      exact ⟨parseOut_err Y.out rfl, ((PI.out.stored FB.out ne3 (.int .i64 f) (.int .i64 p)).1.after (Below.refl _ _).drew |>.out _ _).2⟩
                  | ok st' =>
                    have HIO := Lib.hid (HINS.out.trans hrs)
                    have HRS := Lib.hid hrs
                    obtain ⟨sb1, sb2, sb3⟩ := stepB_ok hrs PI.out.stb PI.out.len HS0.out
                    replace sb1 := Lib.hid (sb1)
                    clear hrs sb2
                    by_cases h24 : 24 < n + 1
                    · have Y := Lib.hid (HQB.out _ HIO.out h24)
                      have h24' : 24 < (n : Int) + 1 := by omega
                      clear h24
                      go_wp2_with (first
                        | (go_at_call 10; refine (lineR_any s j _ (by omega) hlt).mono ?_; rintro e1 w1 ⟨he1, hb2⟩; rw [HLN.out] at he1; obtain ⟨b, lc, rfl, hw1, hlc, hlm⟩ := lineOut_some he1 HNE.out; unfold maxLen at hlm; obtain ⟨hbl, a0, c0, m0, m0', r0⟩ := hw1.zero HNE.out; have HW := Lib.hid hw1; have HR0 := Lib.hid r0; have F := Lib.hid (show ∀ wx, Below w1.heap.size w1 wx → wx.cell? ⟨b, 0, none⟩ = some (.slice a0 (nth ws 0).l.length c0) ∧ wx.cell? ⟨b, 1, none⟩ = some (.int .i64 (nth ws 0).at_) from fun wx hx => ⟨(hx.cell (p := ⟨b, 0, none⟩) hbl).trans m0, (hx.cell (p := ⟨b, 1, none⟩) hbl).trans m0'⟩); simp only [faultV]; have PI := Lib.hid (PI.out.after hb2); have L3 := Lib.hid PI.out.facts.2.2.2.2; clear hb2 hw1 r0 he1)
                        | (go_at_call 11; refine (plainR_any _ _ _ _ HG0.out.1 (by have := HG0.out.2; omega) (HR0.out.alloc _)).mono ?_; rintro e2 w2 ⟨rfl, hb2⟩; have PI := Lib.hid ((PI.out.alloc _).after hb2); have FB := Lib.hid ((BlkF.new _ _ _).after hb2); have HB := Lib.hid (((Below.refl _ _).alloc (Nat.le_refl _) _).trans (hb2.mono (by simp))); obtain ⟨n0, n1⟩ := F.out _ HB.out; have lt10 := FB.out.blk2.lt; obtain ⟨f1, f2, f3, f4⟩ := FB.out.blk2.facts; have lt3 := PI.out.facts.2.2.2.2; clear hb2)
                        | (go_at_call 12; refine (boundsR_any (nth ws 0).text _).mono ?_; rintro e4 w4 ⟨rfl, rfl⟩; rw [HBV.out])
                        | (go_at_call 14; refine (stepR_any st (nth ws 0).text ws w.heap.size n b 0 c lc ao _ PI.out.rows HS0.out (by omega) (by omega) PI.out.stb (HW.out.keep (KeepT.below HB.out) (KeepT.below HB.out)) HG.out h2l h4l hlc (by unfold maxLen; omega) HCP.out).mono ?_; rintro e3 w3 ⟨he3, hb3, hk3⟩; rw [HRS.out] at he3; obtain ⟨ao', c', rfl, hs3⟩ := he3; simp only [faultV]; have FB := Lib.hid (FB.out.keep (hk3 _ (by decide) (by decide) (by decide))); have HW3 := Lib.hid ((HW.out.keep (KeepT.below HB.out) (KeepT.below HB.out)).keep (hk3 _ (by decide) (by decide) (by decide)) (hk3 _ (by decide) (by decide) (by decide))); obtain ⟨hbz, _, _, -, nn1, -⟩ := HW3.out.zero HNE.out; have PI := Lib.hid (PI.out.turned hs3 hb3 hk3 sb1.out sb3); obtain ⟨f1, f2, f3, f4⟩ := FB.out.blk2.facts; have lt10 := FB.out.blk2.lt; obtain ⟨d0, d1, d2, d3, d4⟩ := PI.out.facts; have ne3 : g3 < w1.heap.size := L3.out; clear hb3 hk3 hs3)
                        | (go_at_call 9; refine (bad_any _ _ _).mono ?_; rintro e8 w8 ⟨rfl, hb8⟩; simp only [faultV]; have PI := Lib.hid (((PI.out.stored FB.out ne3 (.int .i64 0) (.int .i64 (-1))).1).after hb8); obtain ⟨d0, d1, d2, d3, d4⟩ := PI.out.facts; clear hb8))
                      refine bodyPost_ret (by simp [results, Tryz.results5, go_sem, d0, d1, d4]; try rfl) rfl ?_
                      exact ⟨parseOut_err Y.out rfl, (PI.out.out _ _).2⟩
                    · have Y := Lib.hid (HQN.out _ HIO.out h24)
                      have h24' : (n : Int) + 1 ≤ 24 := by omega
                      go_wp2_with (first
                        | (go_at_call 10; refine (lineR_any s j _ (by omega) hlt).mono ?_; rintro e1 w1 ⟨he1, hb2⟩; rw [HLN.out] at he1; obtain ⟨b, lc, rfl, hw1, hlc, hlm⟩ := lineOut_some he1 HNE.out; unfold maxLen at hlm; obtain ⟨hbl, a0, c0, m0, m0', r0⟩ := hw1.zero HNE.out; have HW := Lib.hid hw1; have HR0 := Lib.hid r0; have F := Lib.hid (show ∀ wx, Below w1.heap.size w1 wx → wx.cell? ⟨b, 0, none⟩ = some (.slice a0 (nth ws 0).l.length c0) ∧ wx.cell? ⟨b, 1, none⟩ = some (.int .i64 (nth ws 0).at_) from fun wx hx => ⟨(hx.cell (p := ⟨b, 0, none⟩) hbl).trans m0, (hx.cell (p := ⟨b, 1, none⟩) hbl).trans m0'⟩); simp only [faultV]; have PI := Lib.hid (PI.out.after hb2); have L3 := Lib.hid PI.out.facts.2.2.2.2; clear hb2 hw1 r0 he1)
                        | (go_at_call 11; refine (plainR_any _ _ _ _ HG0.out.1 (by have := HG0.out.2; omega) (HR0.out.alloc _)).mono ?_; rintro e2 w2 ⟨rfl, hb2⟩; have PI := Lib.hid ((PI.out.alloc _).after hb2); have FB := Lib.hid ((BlkF.new _ _ _).after hb2); have HB := Lib.hid (((Below.refl _ _).alloc (Nat.le_refl _) _).trans (hb2.mono (by simp))); obtain ⟨n0, n1⟩ := F.out _ HB.out; have lt10 := FB.out.blk2.lt; obtain ⟨f1, f2, f3, f4⟩ := FB.out.blk2.facts; have lt3 := PI.out.facts.2.2.2.2; clear hb2)
                        | (go_at_call 12; refine (boundsR_any (nth ws 0).text _).mono ?_; rintro e4 w4 ⟨rfl, rfl⟩; rw [HBV.out])
                        | (go_at_call 14; refine (stepR_any st (nth ws 0).text ws w.heap.size n b 0 c lc ao _ PI.out.rows HS0.out (by omega) (by omega) PI.out.stb (HW.out.keep (KeepT.below HB.out) (KeepT.below HB.out)) HG.out h2l h4l hlc (by unfold maxLen; omega) HCP.out).mono ?_; rintro e3 w3 ⟨he3, hb3, hk3⟩; rw [HRS.out] at he3; obtain ⟨ao', c', rfl, hs3⟩ := he3; simp only [faultV]; have FB := Lib.hid (FB.out.keep (hk3 _ (by decide) (by decide) (by decide))); have HW3 := Lib.hid ((HW.out.keep (KeepT.below HB.out) (KeepT.below HB.out)).keep (hk3 _ (by decide) (by decide) (by decide)) (hk3 _ (by decide) (by decide) (by decide))); obtain ⟨hbz, _, _, -, nn1, -⟩ := HW3.out.zero HNE.out; have PI := Lib.hid (PI.out.turned hs3 hb3 hk3 sb1.out sb3); obtain ⟨f1, f2, f3, f4⟩ := FB.out.blk2.facts; have lt10 := FB.out.blk2.lt; obtain ⟨d0, d1, d2, d3, d4⟩ := PI.out.facts; have ne3 : g3 < w1.heap.size := L3.out; clear hb3 hk3 hs3))
                      go_roundw
                      (case rel => exact ⟨st', ao', c', n + 1, m, rfl, by go_num, by go_num, by omega, hm2, Y, Lib.hid (PI.out.stored FB.out ne3 (.int .i64 0) (.int .i64 (-1))).1⟩)
                      (case measure => simp [intOf]; omega)
              · have HFR := Lib.hid (show (nth ws 0).text = wFROM from eq_of_beq hfr)
                have hway : ((st.length : Int) == 0) = true ∨ ((st.length : Int) == 0) = false := by cases ((st.length : Int) == 0); exact .inr rfl; exact .inl rfl
                rcases hway with hst0' | hst0'
                all_goals
                  by_cases hlo : ws.length < lo + 1
                  · have Y := Lib.hid (HQL.out _ (HIN.out.trans (if_pos (.inr (.inl hlo)))))
                    have hlo' : (ws.length : Int) - 1 < (lo : Int) := by omega
                    clear hlo
                    go_wp2_with (first
                      | (go_at_call 10; refine (lineR_any s j _ (by omega) hlt).mono ?_; rintro e1 w1 ⟨he1, hb2⟩; rw [HLN.out] at he1; obtain ⟨b, lc, rfl, hw1, hlc, hlm⟩ := lineOut_some he1 HNE.out; unfold maxLen at hlm; obtain ⟨hbl, a0, c0, m0, m0', r0⟩ := hw1.zero HNE.out; have HW := Lib.hid hw1; have HR0 := Lib.hid r0; have F := Lib.hid (show ∀ wx, Below w1.heap.size w1 wx → wx.cell? ⟨b, 0, none⟩ = some (.slice a0 (nth ws 0).l.length c0) ∧ wx.cell? ⟨b, 1, none⟩ = some (.int .i64 (nth ws 0).at_) from fun wx hx => ⟨(hx.cell (p := ⟨b, 0, none⟩) hbl).trans m0, (hx.cell (p := ⟨b, 1, none⟩) hbl).trans m0'⟩); simp only [faultV]; have PI := Lib.hid (PI.out.after hb2); have L3 := Lib.hid PI.out.facts.2.2.2.2; clear hb2 hw1 r0 he1)
                      | (go_at_call 11; refine (plainR_any _ _ _ _ HG0.out.1 (by have := HG0.out.2; omega) (HR0.out.alloc _)).mono ?_; rintro e2 w2 ⟨rfl, hb2⟩; have PI := Lib.hid ((PI.out.alloc _).after hb2); have FB := Lib.hid ((BlkF.new _ _ _).after hb2); have HB := Lib.hid (((Below.refl _ _).alloc (Nat.le_refl _) _).trans (hb2.mono (by simp))); obtain ⟨n0, n1⟩ := F.out _ HB.out; have lt10 := FB.out.blk2.lt; obtain ⟨f1, f2, f3, f4⟩ := FB.out.blk2.facts; have lt3 := PI.out.facts.2.2.2.2; clear hb2)
                      | (go_at_call 12; refine (boundsR_any (nth ws 0).text _).mono ?_; rintro e4 w4 ⟨rfl, rfl⟩; rw [HBV.out])
                      | (go_at_call 9; refine (bad_any _ _ _).mono ?_; rintro e8 w8 ⟨rfl, hb8⟩; simp only [faultV]; have PI := Lib.hid (PI.out.after hb8); obtain ⟨d0, d1, d2, d3, d4⟩ := PI.out.facts; clear hb8))
                    refine bodyPost_ret (by simp [results, Tryz.results5, go_sem, d0, d1, d4]; try rfl) rfl ?_
                    exact ⟨parseOut_err Y.out rfl, (PI.out.out _ _).2⟩
                  have hlo' : (lo : Int) ≤ (ws.length : Int) - 1 := by omega
                  by_cases hhi : hi + 1 < ws.length
                  · have Y := Lib.hid (HQL.out _ (HIN.out.trans (if_pos (.inr (.inr hhi)))))
                    have hhi' : (hi : Int) < (ws.length : Int) - 1 := by omega
                    clear hhi hlo
                    go_wp2_with (first
                      | (go_at_call 10; refine (lineR_any s j _ (by omega) hlt).mono ?_; rintro e1 w1 ⟨he1, hb2⟩; rw [HLN.out] at he1; obtain ⟨b, lc, rfl, hw1, hlc, hlm⟩ := lineOut_some he1 HNE.out; unfold maxLen at hlm; obtain ⟨hbl, a0, c0, m0, m0', r0⟩ := hw1.zero HNE.out; have HW := Lib.hid hw1; have HR0 := Lib.hid r0; have F := Lib.hid (show ∀ wx, Below w1.heap.size w1 wx → wx.cell? ⟨b, 0, none⟩ = some (.slice a0 (nth ws 0).l.length c0) ∧ wx.cell? ⟨b, 1, none⟩ = some (.int .i64 (nth ws 0).at_) from fun wx hx => ⟨(hx.cell (p := ⟨b, 0, none⟩) hbl).trans m0, (hx.cell (p := ⟨b, 1, none⟩) hbl).trans m0'⟩); simp only [faultV]; have PI := Lib.hid (PI.out.after hb2); have L3 := Lib.hid PI.out.facts.2.2.2.2; clear hb2 hw1 r0 he1)
                      | (go_at_call 11; refine (plainR_any _ _ _ _ HG0.out.1 (by have := HG0.out.2; omega) (HR0.out.alloc _)).mono ?_; rintro e2 w2 ⟨rfl, hb2⟩; have PI := Lib.hid ((PI.out.alloc _).after hb2); have FB := Lib.hid ((BlkF.new _ _ _).after hb2); have HB := Lib.hid (((Below.refl _ _).alloc (Nat.le_refl _) _).trans (hb2.mono (by simp))); obtain ⟨n0, n1⟩ := F.out _ HB.out; have lt10 := FB.out.blk2.lt; obtain ⟨f1, f2, f3, f4⟩ := FB.out.blk2.facts; have lt3 := PI.out.facts.2.2.2.2; clear hb2)
                      | (go_at_call 12; refine (boundsR_any (nth ws 0).text _).mono ?_; rintro e4 w4 ⟨rfl, rfl⟩; rw [HBV.out])
                      | (go_at_call 9; refine (bad_any _ _ _).mono ?_; rintro e8 w8 ⟨rfl, hb8⟩; simp only [faultV]; have PI := Lib.hid (PI.out.after hb8); obtain ⟨d0, d1, d2, d3, d4⟩ := PI.out.facts; clear hb8))
                    refine bodyPost_ret (by simp [results, Tryz.results5, go_sem, d0, d1, d4]; try rfl) rfl ?_
                    exact ⟨parseOut_err Y.out rfl, (PI.out.out _ _).2⟩
                  have hhi' : (ws.length : Int) - 1 ≤ (hi : Int) := by omega
                  have HINS := Lib.hid (show instrB st ws = fromB st ws from HIN.out.trans ((if_neg (by rintro (⟨_, h⟩ | h | h); exact h HFR.out; omega; omega)).trans (if_pos HFR.out)))
                  have h2l : 2 ≤ ws.length := by omega
                  have h4l : ws.length ≤ 4 := by omega
                  have hcp : (nth ws 0).text = wCOPY → 3 ≤ ws.length := fun h => by have := HB3.out h; omega
                  have HCP := Lib.hid hcp
                  clear hlo hhi hcp
                  cases hrs : fromB st ws with
                  | error fp =>
                    obtain ⟨f, p⟩ := fp
                    have Y := Lib.hid (HQL.out _ (HINS.out.trans hrs))
                    have HRS := Lib.hid hrs
                    have hf : ((f : Int) != 0) = true := by rcases fromB_err hrs with rfl | rfl | rfl <;> decide
                    clear hrs
                    go_wp2_with (first
                      | (go_at_call 10; refine (lineR_any s j _ (by omega) hlt).mono ?_; rintro e1 w1 ⟨he1, hb2⟩; rw [HLN.out] at he1; obtain ⟨b, lc, rfl, hw1, hlc, hlm⟩ := lineOut_some he1 HNE.out; unfold maxLen at hlm; obtain ⟨hbl, a0, c0, m0, m0', r0⟩ := hw1.zero HNE.out; have HW := Lib.hid hw1; have HR0 := Lib.hid r0; have F := Lib.hid (show ∀ wx, Below w1.heap.size w1 wx → wx.cell? ⟨b, 0, none⟩ = some (.slice a0 (nth ws 0).l.length c0) ∧ wx.cell? ⟨b, 1, none⟩ = some (.int .i64 (nth ws 0).at_) from fun wx hx => ⟨(hx.cell (p := ⟨b, 0, none⟩) hbl).trans m0, (hx.cell (p := ⟨b, 1, none⟩) hbl).trans m0'⟩); simp only [faultV]; have PI := Lib.hid (PI.out.after hb2); have L3 := Lib.hid PI.out.facts.2.2.2.2; clear hb2 hw1 r0 he1)
                      | (go_at_call 11; refine (plainR_any _ _ _ _ HG0.out.1 (by have := HG0.out.2; omega) (HR0.out.alloc _)).mono ?_; rintro e2 w2 ⟨rfl, hb2⟩; have PI := Lib.hid ((PI.out.alloc _).after hb2); have FB := Lib.hid ((BlkF.new _ _ _).after hb2); have HB := Lib.hid (((Below.refl _ _).alloc (Nat.le_refl _) _).trans (hb2.mono (by simp))); obtain ⟨n0, n1⟩ := F.out _ HB.out; have lt10 := FB.out.blk2.lt; obtain ⟨f1, f2, f3, f4⟩ := FB.out.blk2.facts; have lt3 := PI.out.facts.2.2.2.2; clear hb2)
                      | (go_at_call 12; refine (boundsR_any (nth ws 0).text _).mono ?_; rintro e4 w4 ⟨rfl, rfl⟩; rw [HBV.out])
                      | (go_at_call 13; refine (fromR_any st ws w.heap.size ao b 0 c lc _ PI.out.rows PI.out.bel.size (by omega) (fun x hx => by have := (PI.out.stb x hx).1; omega) (HW.out.keep (KeepT.below HB.out) (KeepT.below HB.out)) HG.out h2l h4l hlc (by unfold maxLen; omega)).mono ?_; rintro e3 w3 ⟨he3, hb3, hk3⟩; rw [HRS.out] at he3; obtain rfl := he3; simp only [faultV]; have FB := Lib.hid (FB.out.keep (hk3 _ (by decide) (by decide) (by decide))); have PI := Lib.hid (PI.out.none hb3 hk3); obtain ⟨f1, f2, f3, f4⟩ := FB.out.blk2.facts; have lt10 := FB.out.blk2.lt; obtain ⟨d0, d1, d2, d3, d4⟩ := PI.out.facts; have ne3 : g3 < w1.heap.size := L3.out; have ne3' : g3 ≠ w1.heap.size := (by omega); have ne3'' : w1.heap.size ≠ g3 := (by omega); clear hb3 hk3))
                    go_region
                    all_goals
                      go_wp2
                      refine bodyPost_ret (by simp [results, Tryz.results5, go_sem, d0, d1, d4, ne3', ne3'']; try rfl) rfl ?_
                      exact ⟨parseOut_err Y.out rfl, ((PI.out.stored FB.out ne3 (.int .i64 f) (.int .i64 p)).1.after (Below.refl _ _).drew |>.out _ _).2⟩
                  | ok st' =>
                    have HIO := Lib.hid (HINS.out.trans hrs)
                    have HRS := Lib.hid hrs
                    obtain ⟨sb1, sb2, sb3⟩ := fromB_ok hrs PI.out.stb PI.out.len
                    replace sb1 := Lib.hid (sb1.mono (Nat.le_succ _))
                    clear hrs sb2
                    by_cases h24 : 24 < n + 1
                    · have Y := Lib.hid (HQB.out _ HIO.out h24)
                      have h24' : 24 < (n : Int) + 1 := by omega
                      clear h24
                      go_wp2_with (first
                        | (go_at_call 10; refine (lineR_any s j _ (by omega) hlt).mono ?_; rintro e1 w1 ⟨he1, hb2⟩; rw [HLN.out] at he1; obtain ⟨b, lc, rfl, hw1, hlc, hlm⟩ := lineOut_some he1 HNE.out; unfold maxLen at hlm; obtain ⟨hbl, a0, c0, m0, m0', r0⟩ := hw1.zero HNE.out; have HW := Lib.hid hw1; have HR0 := Lib.hid r0; have F := Lib.hid (show ∀ wx, Below w1.heap.size w1 wx → wx.cell? ⟨b, 0, none⟩ = some (.slice a0 (nth ws 0).l.length c0) ∧ wx.cell? ⟨b, 1, none⟩ = some (.int .i64 (nth ws 0).at_) from fun wx hx => ⟨(hx.cell (p := ⟨b, 0, none⟩) hbl).trans m0, (hx.cell (p := ⟨b, 1, none⟩) hbl).trans m0'⟩); simp only [faultV]; have PI := Lib.hid (PI.out.after hb2); have L3 := Lib.hid PI.out.facts.2.2.2.2; clear hb2 hw1 r0 he1)
                        | (go_at_call 11; refine (plainR_any _ _ _ _ HG0.out.1 (by have := HG0.out.2; omega) (HR0.out.alloc _)).mono ?_; rintro e2 w2 ⟨rfl, hb2⟩; have PI := Lib.hid ((PI.out.alloc _).after hb2); have FB := Lib.hid ((BlkF.new _ _ _).after hb2); have HB := Lib.hid (((Below.refl _ _).alloc (Nat.le_refl _) _).trans (hb2.mono (by simp))); obtain ⟨n0, n1⟩ := F.out _ HB.out; have lt10 := FB.out.blk2.lt; obtain ⟨f1, f2, f3, f4⟩ := FB.out.blk2.facts; have lt3 := PI.out.facts.2.2.2.2; clear hb2)
                        | (go_at_call 12; refine (boundsR_any (nth ws 0).text _).mono ?_; rintro e4 w4 ⟨rfl, rfl⟩; rw [HBV.out])
                        | (go_at_call 13; refine (fromR_any st ws w.heap.size ao b 0 c lc _ PI.out.rows PI.out.bel.size (by omega) (fun x hx => by have := (PI.out.stb x hx).1; omega) (HW.out.keep (KeepT.below HB.out) (KeepT.below HB.out)) HG.out h2l h4l hlc (by unfold maxLen; omega)).mono ?_; rintro e3 w3 ⟨he3, hb3, hk3⟩; rw [HRS.out] at he3; obtain ⟨ao', c', rfl, hs3⟩ := he3; simp only [faultV]; have FB := Lib.hid (FB.out.keep (hk3 _ (by decide) (by decide) (by decide))); have HW3 := Lib.hid ((HW.out.keep (KeepT.below HB.out) (KeepT.below HB.out)).keep (hk3 _ (by decide) (by decide) (by decide)) (hk3 _ (by decide) (by decide) (by decide))); obtain ⟨hbz, _, _, -, nn1, -⟩ := HW3.out.zero HNE.out; have PI := Lib.hid (PI.out.turned hs3 hb3 hk3 sb1.out sb3); obtain ⟨f1, f2, f3, f4⟩ := FB.out.blk2.facts; have lt10 := FB.out.blk2.lt; obtain ⟨d0, d1, d2, d3, d4⟩ := PI.out.facts; have ne3 : g3 < w1.heap.size := L3.out; clear hb3 hk3 hs3)
                        | (go_at_call 9; refine (bad_any _ _ _).mono ?_; rintro e8 w8 ⟨rfl, hb8⟩; simp only [faultV]; have PI := Lib.hid (((PI.out.stored FB.out ne3 (.int .i64 0) (.int .i64 (-1))).1).after hb8); obtain ⟨d0, d1, d2, d3, d4⟩ := PI.out.facts; clear hb8))
                      refine bodyPost_ret (by simp [results, Tryz.results5, go_sem, d0, d1, d4]; try rfl) rfl ?_
                      exact ⟨parseOut_err Y.out rfl, (PI.out.out _ _).2⟩
                    · have Y := Lib.hid (HQN.out _ HIO.out h24)
                      have h24' : (n : Int) + 1 ≤ 24 := by omega
                      go_wp2_with (first
                        | (go_at_call 10; refine (lineR_any s j _ (by omega) hlt).mono ?_; rintro e1 w1 ⟨he1, hb2⟩; rw [HLN.out] at he1; obtain ⟨b, lc, rfl, hw1, hlc, hlm⟩ := lineOut_some he1 HNE.out; unfold maxLen at hlm; obtain ⟨hbl, a0, c0, m0, m0', r0⟩ := hw1.zero HNE.out; have HW := Lib.hid hw1; have HR0 := Lib.hid r0; have F := Lib.hid (show ∀ wx, Below w1.heap.size w1 wx → wx.cell? ⟨b, 0, none⟩ = some (.slice a0 (nth ws 0).l.length c0) ∧ wx.cell? ⟨b, 1, none⟩ = some (.int .i64 (nth ws 0).at_) from fun wx hx => ⟨(hx.cell (p := ⟨b, 0, none⟩) hbl).trans m0, (hx.cell (p := ⟨b, 1, none⟩) hbl).trans m0'⟩); simp only [faultV]; have PI := Lib.hid (PI.out.after hb2); have L3 := Lib.hid PI.out.facts.2.2.2.2; clear hb2 hw1 r0 he1)
                        | (go_at_call 11; refine (plainR_any _ _ _ _ HG0.out.1 (by have := HG0.out.2; omega) (HR0.out.alloc _)).mono ?_; rintro e2 w2 ⟨rfl, hb2⟩; have PI := Lib.hid ((PI.out.alloc _).after hb2); have FB := Lib.hid ((BlkF.new _ _ _).after hb2); have HB := Lib.hid (((Below.refl _ _).alloc (Nat.le_refl _) _).trans (hb2.mono (by simp))); obtain ⟨n0, n1⟩ := F.out _ HB.out; have lt10 := FB.out.blk2.lt; obtain ⟨f1, f2, f3, f4⟩ := FB.out.blk2.facts; have lt3 := PI.out.facts.2.2.2.2; clear hb2)
                        | (go_at_call 12; refine (boundsR_any (nth ws 0).text _).mono ?_; rintro e4 w4 ⟨rfl, rfl⟩; rw [HBV.out])
                        | (go_at_call 13; refine (fromR_any st ws w.heap.size ao b 0 c lc _ PI.out.rows PI.out.bel.size (by omega) (fun x hx => by have := (PI.out.stb x hx).1; omega) (HW.out.keep (KeepT.below HB.out) (KeepT.below HB.out)) HG.out h2l h4l hlc (by unfold maxLen; omega)).mono ?_; rintro e3 w3 ⟨he3, hb3, hk3⟩; rw [HRS.out] at he3; obtain ⟨ao', c', rfl, hs3⟩ := he3; simp only [faultV]; have FB := Lib.hid (FB.out.keep (hk3 _ (by decide) (by decide) (by decide))); have HW3 := Lib.hid ((HW.out.keep (KeepT.below HB.out) (KeepT.below HB.out)).keep (hk3 _ (by decide) (by decide) (by decide)) (hk3 _ (by decide) (by decide) (by decide))); obtain ⟨hbz, _, _, -, nn1, -⟩ := HW3.out.zero HNE.out; have PI := Lib.hid (PI.out.turned hs3 hb3 hk3 sb1.out sb3); obtain ⟨f1, f2, f3, f4⟩ := FB.out.blk2.facts; have lt10 := FB.out.blk2.lt; obtain ⟨d0, d1, d2, d3, d4⟩ := PI.out.facts; have ne3 : g3 < w1.heap.size := L3.out; clear hb3 hk3 hs3))
                      go_roundw
                      (case rel => exact ⟨st', ao', c', n + 1, m, rfl, by go_num, by go_num, by omega, hm2, Y, Lib.hid (PI.out.stored FB.out ne3 (.int .i64 0) (.int .i64 (-1))).1⟩)
                      (case measure => simp [intOf]; omega)
        · have hjs : s.length ≤ j := by omega
          by_cases hst0 : st = []
          · have hst0' : ((st.length : Int) == 0) = true := by rw [hst0]; rfl
            have Y := Lib.hid (show parseB s = .error (5, s.length) by rw [HQ.out, fileB_end hjs, if_pos hst0])
            clear hst0 HQ
            go_wp2_with (go_at_call 9; refine (bad_any _ _ _).mono ?_; rintro e8 w8 ⟨rfl, hb8⟩; simp only [faultV]; have PI := Lib.hid (PI.out.after hb8); obtain ⟨d0, d1, d2, d3, d4⟩ := PI.out.facts; clear hb8)
            refine bodyPost_ret (by simp [results, Tryz.results5, go_sem, d0, d1, d4]; try rfl) rfl ?_
            exact ⟨parseOut_err Y.out rfl, (PI.out.out _ _).2⟩
          · have hst0' : ((st.length : Int) == 0) = false := by rw [beq_eq_false_iff_ne]; intro e; exact hst0 (List.eq_nil_of_length_eq_zero (by omega))
            have Y := Lib.hid (show parseB s = .ok st by rw [HQ.out, fileB_end hjs, if_neg hst0])
            have HS0 := Lib.hid hst0
            clear hst0 HQ
            go_wp2_with (go_at_call 15; refine (fine_any _).mono ?_; rintro e8 w8 ⟨rfl, hb8⟩; simp only [faultV]; have PI := Lib.hid (PI.out.after hb8); obtain ⟨d0, d1, d2, d3, d4⟩ := PI.out.facts; clear hb8)
            refine bodyPost_ret (by simp [results, Tryz.results5, go_sem, d0, d1, d4]; try rfl) rfl ?_
            exact ⟨parseOut_ok Y.out rfl rfl (PI.out.out _ _).1 (PI.out.stb.mono (by omega)) HS0.out PI.out.len, (PI.out.out _ _).2⟩)
end Go.Proofs.YtflggoddfjmljaaGreatDoor
