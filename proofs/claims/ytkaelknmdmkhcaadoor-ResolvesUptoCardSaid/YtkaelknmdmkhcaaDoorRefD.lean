/-
  The document's answer: the path that a text names.
-/
import Derived.Test.YtkaelknmdmkhcaaDoorRefC
import Derived.Test.YtkaelknmdmkhcaaDoorPath
import Derived.Laws.AppendOwnNone
import Derived.WalkSmall
import Derived.Deep.DeepCutAuto
namespace Go.Proofs.YtkaelknmdmkhcaaDoor
open Go.RowKit

/-- behind a row of one cell an element more is the last -/
theorem own_cells {w : World} {base : Nat} {e : TypeId} {v : Value} {n : Nat} {xs : List Value} (h : w.ownsRow base e 1 v n xs) :
    (v = .slice none 0 0 ∧ n = 0) ∨ ∃ ad cap, v = .slice (some ad) n cap ∧ ∀ j u, xs[j]? = some u → w.cell? (ad.add j) = some u := by
  rcases h.2 with ⟨rfl, rfl⟩ | ⟨g, cap, cur, rfl, hg, hh, hn, hm, r1, r2⟩
  · exact .inl ⟨rfl, rfl⟩
  · exact .inr ⟨⟨g, 0, none⟩, cap, rfl, h.cells rfl⟩

theorem cells_below {W W' : World} {ad : Addr} {xs : List Value} (hb : Below W.heap.size W W') (h : ∀ j u, xs[j]? = some u → W.cell? (ad.add j) = some u) : ∀ j u, xs[j]? = some u → W'.cell? (ad.add j) = some u := by
  intro j u hu
  rw [hb.cell (World.block_lt_of_cell? W _ (h j u hu))]
  exact h j u hu
theorem strs_one (l : List (List UInt8)) : ∀ u ∈ strs l, u.oneCell' = true := by
  intro u hu
  simp only [strs, List.mem_map] at hu
  obtain ⟨x, _, rfl⟩ := hu
  rfl

theorem World.grownBy_below {w w' : World} {row : Option Nat} (h : w.grownBy w' row) (hr : row = none) : Below w.heap.size w w' :=
  (Below.refl _ w).grown h (Nat.le_refl _) (fun k hk => by rw [hr] at hk; cases hk)
theorem strs_len1 (l : List (List UInt8)) : (strs l).length = l.length * 1 := by simp [strs]

/-- the list that is gone through, laid as a slice: what region 4 of Resolve makes -/
def RelR (w0 : World) (L : List (List UInt8)) (T : Option (List (List UInt8))) (v i : Value) (wr : World) : Prop :=
  ∃ (out : List (List UInt8)) (k : Nat), i = .int .i64 k ∧ k ≤ L.length ∧ T = resGo out (L.drop k) ∧ lensB out ≤ lensB (L.take k) ∧
    wr.ownsRow w0.heap.size 9 1 v out.length (strs out) ∧ Below w0.heap.size w0 wr

/-- what the document's Resolve answers -/
def resOutR (work text : List UInt8) : Value := match resB work text with
  | none => .tuple #[.string (S []), .bool false]
  | some out => if pathB (joinB out) = true then .tuple #[.string (S (joinB out)), .bool true] else .tuple #[.string (S []), .bool false]
theorem resOutR_none {work text : List UInt8} (h : resB work text = none) : resOutR work text = .tuple #[.string (S []), .bool false] := by rw [resOutR, h]
theorem resOutR_yes {work text : List UInt8} {out : List (List UInt8)} (h : resB work text = some out) (hp : pathB (joinB out) = true) : resOutR work text = .tuple #[.string (S (joinB out)), .bool true] := by
  rw [resOutR, h]; exact if_pos hp
theorem resOutR_no {work text : List UInt8} {out : List (List UInt8)} (h : resB work text = some out) (hp : pathB (joinB out) = false) : resOutR work text = .tuple #[.string (S []), .bool false] := by
  rw [resOutR, h]; exact if_neg (by simp [hp])

/-- what Resolve goes through lies in a slice of its own -/
def AllAt (w : World) (L : List (List UInt8)) (v : Value) (wx : World) : Prop := ∃ A cap, v = .slice A L.length cap ∧ Rd wx A (strs L) ∧ Below w.heap.size w wx

set_option maxRecDepth 100000 in
set_option maxHeartbeats 4000000 in
theorem resolveR_any (work text : List UInt8) (w : World) (hs : work.length + text.length ≤ 2000000000) :
    Calls Tryd.prog 6 #[.string (S work), .string (S text)] w fun e w' =>
      e = .returned (resOutR work text) ∧ Below w.heap.size w w' := by
  obtain ⟨i0, hi, hz0, hz1, hz2⟩ := info_parts (show (Tryd.prog.info? 9).map (fun i => (i.zero, i.size, i.bytes)) = some (some (.string ByteArray.empty), 1, 16) by kernel_rfl)
  have hcl := cutB_len 47 text
  have hpl := partsB_len work
  go_enter Tryd.func6, Tryd.ntmps6
  go_upto_region 2 with (go_at_call 13; refine (cut_any text 47 47 rfl _ (by omega)).mono ?_; rintro e w1 ⟨v1, rfl, hown1, hb1⟩)
  obtain ⟨D, hD⟩ : ∃ D, (!decide (text.head? = some 47)) = D := ⟨_, rfl⟩
  have HD := Lib.hid hD
  clear hD
  go_cut [21] (fun v wx => v = .bool D ∧ w1 = wx)
  case first =>
    clear hown1 hcl hpl
    cases text with
    | nil =>
      obtain rfl : true = D := HD.out
      clear HD
      go_wp2
      go_meet
      exact ⟨rfl, rfl⟩
    | cons c r =>
      have X : ((c.toNat : Int) != 47) = D := by
        rw [← HD.out, List.head?_cons]
        cases h : ((c.toNat : Int) == 47)
        · rw [bne, h, decide_eq_false]; intro e; cases e; simp at h
        · rw [bne, h, decide_eq_true]; congr 1; exact u8_eq.2 (by simpa using h)
      clear HD
      go_wp2
      go_meet
      exact ⟨rfl, rfl⟩
  case rest =>
    obtain ⟨rfl, rfl⟩ := hcut
    go_upto_if 21 with fail
    go_cut [6] (fun v wx => AllAt w (allR work text) v wx)
    case first =>
      obtain ⟨A, cap, rfl, _, _, hrd⟩ := Rd.of_own hown1
      by_cases hh : text.head? = some 47
      · have X := Lib.hid (show allR work text = cutB 47 text by rw [allR, if_pos hh])
        obtain rfl : false = D := by rw [← HD.out, decide_eq_true hh]; rfl
        clear hown1 hh
        go_wp2
        go_meet
        refine ⟨A, cap, ?_, ?_, hb1⟩
        · rw [X.out]
        · rw [X.out]; exact hrd
      · have X := Lib.hid (show allR work text = partsB work ++ cutB 47 text by rw [allR, if_neg hh])
        obtain rfl : true = D := by rw [← HD.out, decide_eq_false hh]; rfl
        have hcells := own_cells hown1
        have hne : (cutB 47 text).length ≠ 0 := by have := cutB_ne 47 text; intro h; exact this (List.eq_nil_of_length_eq_zero h)
        obtain ⟨ad1, hA1, hc1⟩ : ∃ ad1, A = some ad1 ∧ ∀ j u, (strs (cutB 47 text))[j]? = some u → w1.cell? (ad1.add j) = some u := by
          rcases hcells with ⟨_, h⟩ | ⟨ad, cap2, h, hc⟩
          · exact absurd h hne
          · cases h; exact ⟨ad, rfl, hc⟩
        subst hA1
        have HC1 := Lib.hid hc1
        clear hcells hown1 hrd hne hh hc1
        go_wp2_with fail
        refine (parts_any work _ (by omega)).mono ?_
        rintro e w2 ⟨v2, rfl, hown2, hb2⟩
        have hL2 : lensB (allR work text) ≤ work.length + text.length + 2 := (lensB_all work text).1
        have hpw := len_lensB (partsB work)
        have hb12 : Below w.heap.size w w2 := hb1.trans (hb2.mono hb1.size)
        rcases own_cells hown2 with ⟨rfl, h0⟩ | ⟨ad2, cap2, rfl, hc2⟩
        · have hp0 : partsB work = [] := List.eq_nil_of_length_eq_zero h0
          have Y := Lib.hid (show allR work text = cutB 47 text by rw [X.out, hp0]; rfl)
          have hc1 := Lib.hid (cells_below hb2 HC1.out)
          clear hown2 HC1 X
          go_wp2_with (first | (at_builtin; refine wpList_append_own_none rfl _ (.tmp 24) 44 rfl w2.heap.size 9 i0 1 Tryd.underlying44 hi _ 0 [] rfl (World.ownsRow_nil _ _ _ _) rfl ?_) | (at_builtin; refine wpList_append_own _ rfl (.tmp 25) (.tmp 26) 44 rfl w2.heap.size 9 i0 (.string ByteArray.empty) 1 16 Tryd.underlying44 hi hz0 hz1 hz2 rfl (by decide) _ _ _ rfl (World.ownsRow_nil _ _ _ _) ad1 _ cap _ rfl (strs_len1 _) hc1.out (strs_one _) (by unfold maxLen; omega) (by omega) (Nat.le_refl _) ?_; intro v' w3 hown3 hgr3 _))
          have hown3' : w3.ownsRow w2.heap.size 9 1 v' (allR work text).length (strs (allR work text)) := by
            rw [Y.out]; simpa using hown3
          have hb3 : Below w.heap.size w w3 := hb12.trans ((World.grownBy_below hgr3 rfl).mono hb12.size)
          obtain ⟨A3, cap3, rfl, _, _, hrd3⟩ := Rd.of_own hown3'
          clear hown3 hown3' hgr3 hc1
          go_wp2
          go_meet
          exact ⟨A3, cap3, rfl, hrd3, hb3⟩
        · have hc1 := Lib.hid (cells_below hb2 HC1.out)
          have HC2 := Lib.hid hc2
          clear hown2 HC1 hc2
          go_wp2_with (first | (at_builtin; refine wpList_append_own _ rfl _ (.tmp 24) 44 rfl w2.heap.size 9 i0 (.string ByteArray.empty) 1 16 Tryd.underlying44 hi hz0 hz1 hz2 rfl (by decide) _ 0 [] rfl (World.ownsRow_nil _ _ _ _) ad2 _ cap2 _ rfl (strs_len1 _) HC2.out (strs_one _) (by unfold maxLen; omega) (by omega) (Nat.le_refl _) ?_; intro v' w3 hown3 hgr3 _; have hgb : Below w2.heap.size w2 w3 := World.grownBy_below hgr3 rfl; have hc13 := Lib.hid (cells_below hgb hc1.out); clear hgr3; simp only [Nat.zero_add, List.nil_append] at hown3) | (at_builtin; refine wpList_append_own _ rfl (.tmp 25) (.tmp 26) 44 rfl w2.heap.size 9 i0 (.string ByteArray.empty) 1 16 Tryd.underlying44 hi hz0 hz1 hz2 rfl (by decide) _ _ _ rfl hown3 ad1 _ cap _ rfl (strs_len1 _) hc13.out (strs_one _) (by unfold maxLen; omega) (by omega) hgb.size ?_; intro v'' w4 hown4 hgr4 _))
          have hown4' : w4.ownsRow w2.heap.size 9 1 v'' (allR work text).length (strs (allR work text)) := by
            rw [X.out, strs_app, List.length_append]; exact hown4
          have hb4 : Below w.heap.size w w4 := hb12.trans ((hgb.grown hgr4 hgb.size (fun q hq => (hown3.lt q hq).1)).mono hb12.size)
          obtain ⟨A3, cap3, rfl, _, _, hrd3⟩ := Rd.of_own hown4'
          clear hown3 hown4 hown4' hgr4 hc13
          go_wp2
          go_meet
          exact ⟨A3, cap3, rfl, hrd3, hb4⟩
    case rest =>
      obtain ⟨A, cap, rfl, hrd, hb⟩ := hcut
      generalize hL : allR work text = L at *
      have HT := Lib.hid (show resB work text = resGo [] L by unfold resB; rw [hL])
      have hLb : lensB L ≤ work.length + text.length + 2 := by rw [← hL]; exact (lensB_all work text).1
      have hLl := len_lensB L
      clear hL hown1 HD hb1 hcl hpl
      go_wp2
      go_loopw [8, 9] (fun v i wr => RelR wc L (resB work text) v i wr) (fun _ i _ => L.length - (intOf i).toNat)
      case atStart => exact ⟨[], 0, rfl, Nat.zero_le _, HT.out, by simp [lensB], World.ownsRow_nil _ _ _ _, Below.refl _ _⟩
      case round =>
        obtain ⟨out, k, rfl, hk, hT, hlen, hown, hbel⟩ := hrel
        have HT2 := Lib.hid hT
        clear hT HT
        by_cases hlt : k < L.length
        · obtain ⟨b, o, rfl, hbc, hc0⟩ := hrd.at k (by simpa [strs] using hlt)
          have hbb : b < wr.heap.size := Nat.lt_of_lt_of_le hbc hbel.size
          have hc : ∀ (j : Nat) (u : Value), (strs L)[j]? = some u → wr.cell? ⟨b, o + j, none⟩ = some u := fun j u hu => (hbel.cell (p := ⟨b, o + j, none⟩) hbc).trans (hc0 j u hu)
          clear hc0
          have hck := hc k _ (strs_get hlt)
          have hd := drop_cons L k hlt
          obtain ⟨e, he⟩ : ∃ e, L[k] = e := ⟨_, rfl⟩
          rw [he] at hck hd
          clear hc
          have hlen1 : lensB out ≤ lensB (L.take (k + 1)) := by
            rw [List.take_succ_eq_append_getElem hlt, lensB_app]; omega
          have hlen2 : lensB (out ++ [e]) ≤ lensB (L.take (k + 1)) := by
            rw [List.take_succ_eq_append_getElem hlt, lensB_app, lensB_app, he]; omega
          have hlen3 := lensB_take L (k + 1)
          have hol : out.length + 1 ≤ 2000000002 := by have := len_lensB (out ++ [e]); rw [List.length_append, List.length_singleton] at this; omega
          have hle : e.length + 1 ≤ lensB L := by have := lensB_get L k hlt; rw [he] at this; omega
          obtain ⟨Ao, capo, rfl, hcapo, hcm, _⟩ := Rd.of_own hown
          have HL1 := Lib.hid hlt
          clear he
          by_cases e1 : e = []
          · subst e1
            have Y := Lib.hid (show resB work text = resGo out (L.drop (k + 1)) by rw [HT2.out, hd, resGo_skip _ _ _ (.inl rfl)])
            clear HT2 hd
            go_wp2
            go_roundw
            case rel => exact ⟨out, k + 1, by go_num, by omega, Y.out, hlen1, hown, hbel⟩
            case measure => simp [intOf]; omega
          by_cases e2 : e = [46]
          · subst e2
            have Y := Lib.hid (show resB work text = resGo out (L.drop (k + 1)) by rw [HT2.out, hd, resGo_skip _ _ _ (.inr rfl)])
            clear HT2 hd
            go_wp2
            go_roundw
            case rel => exact ⟨out, k + 1, by go_num, by omega, Y.out, hlen1, hown, hbel⟩
            case measure => simp [intOf]; omega
          by_cases e3 : e = [46, 46]
          · subst e3
            rcases nil_or_snoc out with rfl | ⟨init, last, rfl⟩
            · have Y := Lib.hid (show resB work text = none by rw [HT2.out, hd, resGo_up0])
              clear HT2 hd
              go_wp2
              go_ret2
              exact ⟨by rw [resOutR_none Y.out]; rfl, hb.trans (hbel.mono hb.size)⟩
            · have Y := Lib.hid (show resB work text = resGo init (L.drop (k + 1)) by rw [HT2.out, hd, resGo_up _ _ (by simp)]; simp)
              have hli : lensB init ≤ lensB (L.take (k + 1)) := by rw [lensB_app] at hlen1; omega
              clear HT2 hd
              have hown' : wr.ownsRow wc.heap.size 9 1 (.slice Ao (init.length + 1) capo) (init.length + 1) (strs init ++ strs [last]) := by
                rw [← strs_app]; simpa using hown
              obtain ⟨g, rfl⟩ : ∃ g, Ao = some ⟨g, 0, none⟩ := by
                rcases hown'.2 with ⟨_, h⟩ | ⟨g, _, _, h, _⟩
                · cases h
                · cases h; exact ⟨g, rfl⟩
              have hown2 := ownsRow_pop (by simp [strs]) hown'
              have hil : init.length ≤ 4294967295 := by rw [List.length_append] at hol; omega
              have hcapo' : init.length + 1 ≤ capo := by simpa using hcapo
              clear hown hown'
              go_wp2
              go_roundw
              case rel => exact ⟨init, k + 1, by go_num, by omega, Y.out, hli, by simpa using hown2, hbel⟩
              case measure => simp [intOf]; omega
          have f1 : e.isEmpty = false := by cases e <;> simp_all
          have f1' : (e == []) = false := by simpa using e1
          have f2 : (e == [46]) = false := by simpa using e2
          have f3 : (e == [46, 46]) = false := by simpa using e3
          cases hE : elementB e
          · have Y := Lib.hid (show resB work text = none by rw [HT2.out, hd, resGo_no _ _ _ e1 e2 e3 hE])
            have HE := Lib.hid hE
            clear HT2 hd hE e1 e2 e3
            go_wp2_with (first | (at_builtin; refine wpList_append_own _ rfl _ _ 44 rfl wc.heap.size 9 i0 (.string ByteArray.empty) 1 16 Tryd.underlying44 hi hz0 hz1 hz2 rfl (by decide) _ _ _ rfl (hown.alloc _) ⟨wr.heap.size, 0, none⟩ 1 1 [.string (S e)] rfl rfl (cell_new1 _ _ _) (by simp [Value.oneCell']) (by unfold maxLen; omega) (by omega) (by have := hbel.size; simp; omega) ?_; intro v' w1 hown1 hgr1 _; have hbel1 : Below wc.heap.size wc w1 := (hbel.alloc hbel.size _).grown hgr1 (by have := hbel.size; simp; omega) (fun q hq => ((hown.alloc (.cells #[.string (S e)] 9)).lt q hq).1); have hck1 : w1.cell? ⟨b, o + k, none⟩ = some (.string (S e)) := ((hbel1.cell (p := ⟨b, o + k, none⟩) hbc).trans (hbel.cell (p := ⟨b, o + k, none⟩) hbc).symm).trans hck) | (go_at_call 15; refine (element_any e _ (by unfold maxLen; omega)).mono ?_; rintro e9 w9 ⟨rfl, rfl⟩; rw [HE.out]))
            go_ret2
            exact ⟨by rw [resOutR_none Y.out]; rfl, hb.trans ((hbel1).mono hb.size)⟩
          · have Y := Lib.hid (show resB work text = resGo (out ++ [e]) (L.drop (k + 1)) by rw [HT2.out, hd, resGo_in _ _ _ e1 e2 e3 hE])
            have HE := Lib.hid hE
            clear HT2 hd hE e1 e2 e3
            go_wp2_with (first | (at_builtin; refine wpList_append_own _ rfl _ _ 44 rfl wc.heap.size 9 i0 (.string ByteArray.empty) 1 16 Tryd.underlying44 hi hz0 hz1 hz2 rfl (by decide) _ _ _ rfl (hown.alloc _) ⟨wr.heap.size, 0, none⟩ 1 1 [.string (S e)] rfl rfl (cell_new1 _ _ _) (by simp [Value.oneCell']) (by unfold maxLen; omega) (by omega) (by have := hbel.size; simp; omega) ?_; intro v' w1 hown1 hgr1 _; have hbel1 : Below wc.heap.size wc w1 := (hbel.alloc hbel.size _).grown hgr1 (by have := hbel.size; simp; omega) (fun q hq => ((hown.alloc (.cells #[.string (S e)] 9)).lt q hq).1); have hck1 : w1.cell? ⟨b, o + k, none⟩ = some (.string (S e)) := ((hbel1.cell (p := ⟨b, o + k, none⟩) hbc).trans (hbel.cell (p := ⟨b, o + k, none⟩) hbc).symm).trans hck) | (go_at_call 15; refine (element_any e _ (by unfold maxLen; omega)).mono ?_; rintro e9 w9 ⟨rfl, rfl⟩; rw [HE.out]))
            go_roundw
            case rel => exact ⟨out ++ [e], k + 1, by go_num, by omega, Y.out, hlen2, by rw [strs_app, List.length_append]; exact hown1, hbel1⟩
            case measure => simp [intOf]; omega
        · obtain rfl : k = L.length := by omega
          have Y := Lib.hid (show resB work text = some out by rw [HT2.out, List.drop_length]; rfl)
          have hlen1 : lensB out ≤ lensB L := by rw [List.take_length] at hlen; exact hlen
          have hlo := len_lensB out
          have hjl := joinB_len out
          obtain ⟨Ao, capo, rfl, hcapo, hcm, hrdo⟩ := Rd.of_own hown
          have hbw : Below w.heap.size w wr := hb.trans (hbel.mono hb.size)
          clear HT2 hown hlen
          cases hP : pathB (joinB out)
          · have Z := Lib.hid (resOutR_no Y.out hP)
            have HP := Lib.hid hP
            clear hP Y
            go_wp2_with (first | (go_at_call 16; refine (joined_any out Ao capo _ hrdo (by omega) (by omega)).mono ?_; rintro e9 w9 ⟨rfl, rfl⟩) | (go_at_call 7; refine (isPath_any (joinB out) _ (by omega)).mono ?_; rintro e9 w9 ⟨rfl, hb9⟩; rw [HP.out]))
            go_ret2
            exact ⟨by rw [Z.out]; rfl, hbw.trans (hb9.mono hbw.size)⟩
          · have Z := Lib.hid (resOutR_yes Y.out hP)
            have HP := Lib.hid hP
            clear hP Y
            go_wp2_with (first | (go_at_call 16; refine (joined_any out Ao capo _ hrdo (by omega) (by omega)).mono ?_; rintro e9 w9 ⟨rfl, rfl⟩) | (go_at_call 7; refine (isPath_any (joinB out) _ (by omega)).mono ?_; rintro e9 w9 ⟨rfl, hb9⟩; rw [HP.out]))
            go_ret2
            exact ⟨by rw [Z.out]; rfl, hbw.trans (hb9.mono hbw.size)⟩
end Go.Proofs.YtkaelknmdmkhcaaDoor
