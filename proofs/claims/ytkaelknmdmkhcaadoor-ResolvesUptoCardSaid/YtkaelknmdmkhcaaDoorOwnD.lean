/-
  The program's path that a text names.
-/
import Derived.Test.YtkaelknmdmkhcaaDoorRefD
import Derived.Test.YtkaelknmdmkhcaaDoorOwnB
namespace Go.Proofs.YtkaelknmdmkhcaaDoor
open Go.RowKit

theorem join_lib (l : List (List UInt8)) : Lib.join l [47] = joinB l := by
  unfold Lib.join
  induction l with
  | nil => rfl
  | cons a r ih =>
    cases r with
    | nil => simp [List.intercalate, joinB]
    | cons b t =>
      rw [joinB, ← ih]
      simp [List.intercalate]

theorem own_below {w w' : World} {base : Nat} {e : TypeId} {size : Nat} {v : Value} {n : Nat} {xs : List Value} (h : w.ownsRow base e size v n xs) (hb : Below w.heap.size w w') : w'.ownsRow base e size v n xs :=
  ⟨h.1, h.2.imp_right fun ⟨g, cap, cur, hv, hg, hh, r⟩ => ⟨g, cap, cur, hv, hg, (hb.block g (Array.getElem?_eq_some_iff.1 hh).1).trans hh, r⟩⟩

theorem join_any (l : List (List UInt8)) (A : Option Addr) (cap : Nat) (w : World) (hr : Rd w A (strs l)) (hcap : l.length ≤ cap) (hs : lensB l ≤ 4294967290) :
    Calls Tryd.prog 45 #[.slice A l.length cap, .string (S [47])] w fun e w' => e = .returned (.string (S (joinB l))) ∧ Below w.heap.size w w' := by
  have hll := len_lensB l
  have hjl := joinB_len l
  by_cases h0 : l = []
  · subst h0
    exact (Tryd.strings_Join_none A cap (S [47]) w).mono fun e w' ⟨he, hw⟩ => ⟨he, hw ▸ Below.refl _ _⟩
  · obtain ⟨b, o, rfl, hb, hc⟩ := hr.at 0 (by rw [strs_len]; exact List.length_pos_iff.2 h0)
    have e1 : ((l.map S).map (·.data.toList)) = l := by rw [List.map_map]; exact (List.map_congr_left fun x _ => S_data x).trans (List.map_id _)
    have := Tryd.strings_Join b o cap (l.map S) (S [47]) w (fun j x hx => by
      refine hc j _ ?_
      rw [List.getElem?_map] at hx
      cases h : l[j]? with
      | none => rw [h] at hx; cases hx
      | some y => rw [h] at hx; cases hx; simp [strs, h]) hb (by rw [List.length_map]; omega) (by rw [List.length_map]; exact hcap) (by rw [e1, S_data, join_lib]; omega)
    rw [List.length_map, e1, S_data, join_lib] at this
    exact this

/-- what the program's Resolve answers -/
def resOutP (work text : List UInt8) : Value := match resB work text with
  | none => .tuple #[.string (S []), .bool false]
  | some out => .tuple #[.string (S (joinB out)), .bool (pathB (joinB out))]
theorem resOutP_none {work text : List UInt8} (h : resB work text = none) : resOutP work text = .tuple #[.string (S []), .bool false] := by rw [resOutP, h]
theorem resOutP_some {work text : List UInt8} {out : List (List UInt8)} (h : resB work text = some out) : resOutP work text = .tuple #[.string (S (joinB out)), .bool (pathB (joinB out))] := by rw [resOutP, h]

/-- what stands ahead of the text's own parts -/
def HeadAt (w : World) (work text : List UInt8) (v : Value) (wx : World) : Prop :=
  wx.ownsRow w.heap.size 9 1 v (if text.head? = some 47 then [] else cutB 47 work).length (strs (if text.head? = some 47 then [] else cutB 47 work)) ∧ Below w.heap.size w wx

set_option maxRecDepth 100000 in
set_option maxHeartbeats 4000000 in
theorem resolveT_any (work text : List UInt8) (w : World) (hw : Std w) (hs : work.length + text.length ≤ 2000000000) :
    Calls Tryd.prog 27 #[.string (S work), .string (S text)] w fun e w' => e = .returned (resOutP work text) ∧ Below w.heap.size w w' := by
  obtain ⟨i0, hi, hz0, hz1, hz2⟩ := info_parts (show (Tryd.prog.info? 9).map (fun i => (i.zero, i.size, i.bytes)) = some (some (.string ByteArray.empty), 1, 16) by kernel_rfl)
  have HS := Lib.hid hw
  clear hw
  obtain ⟨D, hD⟩ : ∃ D, ([47] : List UInt8).isPrefixOf text = D := ⟨_, rfl⟩
  have HD := Lib.hid hD
  have hDi : D = true ↔ text.head? = some 47 := by
    rw [← hD]
    cases text with
    | nil => exact ⟨fun h => (by cases h), fun h => (by cases h)⟩
    | cons c r =>
      rw [List.head?_cons, List.isPrefixOf]
      constructor
      · intro h; rw [Bool.and_eq_true, beq_iff_eq] at h; rw [h.1]
      · intro h; cases h; rfl
  have HDi := Lib.hid hDi
  clear hD hDi
  go_enter Tryd.func27, Tryd.ntmps27
  go_upto_if 13 with (go_at_call 43; refine (hasPrefix_any text [47] _).mono ?_; rintro e w1 ⟨rfl, rfl⟩; rw [HD.out])
  go_cut [6] (fun v wx => HeadAt w work text v wx)
  case first =>
    cases D
    · have hn : ¬ text.head? = some 47 := fun h => absurd (HDi.out.2 h) (by simp)
      have X := Lib.hid (show (if text.head? = some 47 then [] else cutB 47 work) = cutB 47 work from if_neg hn)
      clear hn
      go_wp2_with (go_at_call 44; refine (split_any work 47 _ HS.out (by omega)).mono ?_; rintro e w1 ⟨v, rfl, hown, hb⟩)
      go_meet
      exact ⟨by rw [X.out]; exact hown, hb⟩
    · have X := Lib.hid (show (if text.head? = some 47 then [] else cutB 47 work) = [] from if_pos (HDi.out.1 rfl))
      go_wp2
      go_meet
      exact ⟨by rw [X.out]; exact World.ownsRow_nil _ _ _ _, Below.refl _ _⟩
  case rest =>
    obtain ⟨hown0, hb0⟩ := hcut
    have HL := Lib.hid (show allP work text = (if text.head? = some 47 then [] else cutB 47 work) ++ cutB 47 text by
      unfold allP; split <;> simp)
    have hLb := (lensB_all work text).2
    have hLl := len_lensB (allP work text)
    generalize hH : (if text.head? = some 47 then [] else cutB 47 work) = H at *
    have hHL : H.length + (cutB 47 text).length = (allP work text).length := by rw [HL.out, List.length_append]
    clear hH
    go_wp2_with fail
    refine (split_any text 47 _ (HS.out.below hb0) (by omega)).mono ?_
    rintro e w2 ⟨v2, rfl, hown2, hb2⟩
    have hne : (cutB 47 text).length ≠ 0 := by have := cutB_ne 47 text; intro h; exact this (List.eq_nil_of_length_eq_zero h)
    obtain ⟨ad2, cap2, rfl, hc2⟩ : ∃ ad2 cap2, v2 = .slice (some ad2) (cutB 47 text).length cap2 ∧ ∀ j u, (strs (cutB 47 text))[j]? = some u → w2.cell? (ad2.add j) = some u := by
      rcases own_cells hown2 with ⟨_, h⟩ | ⟨ad, cap, h, hc⟩
      · exact absurd h hne
      · exact ⟨ad, cap, h, hc⟩
    have HC2 := Lib.hid hc2
    have hown02 := own_below hown0 hb2
    have hb02 : Below w.heap.size w w2 := hb0.trans (hb2.mono hb0.size)
    clear hown2 hne hc2 hown0
    go_wp2_with (at_builtin; refine wpList_append_own _ rfl _ _ 44 rfl w.heap.size 9 i0 (.string ByteArray.empty) 1 16 Tryd.underlying44 hi hz0 hz1 hz2 rfl (by decide) _ _ _ rfl hown02 ad2 _ cap2 _ rfl (strs_len1 _) HC2.out (strs_one _) (by unfold maxLen; omega) (by omega) hb02.size ?_; intro v' w3 hown3 hgr3 _; have hb3 : Below w.heap.size w w3 := hb02.grown hgr3 hb02.size (fun q hq => (hown02.lt q hq).1); rw [← strs_app, ← List.length_append, ← HL.out] at hown3; obtain ⟨A, cap, rfl, _, _, hrd⟩ := Rd.of_own hown3; clear hown3 hgr3 hown02)
    generalize hL : allP work text = L at *
    have HT := Lib.hid (show resB work text = resGo [] L by unfold resB; rw [← resGo_all, hL])
    clear hL HL HC2 hb0 hb2 hb02 hHL
    go_loopw [7, 21] (fun v i wr => RelR w3 L (resB work text) v i wr) (fun _ i _ => L.length - (intOf i).toNat)
    case atStart => exact ⟨[], 0, rfl, Nat.zero_le _, HT.out, by simp [lensB], World.ownsRow_nil _ _ _ _, Below.refl _ _⟩
    case round =>
      obtain ⟨out, k, rfl, hk, hT, hlen, hown, hbel⟩ := hrel
      have HT2 := Lib.hid hT
      clear hT HT
      by_cases hlt : k < L.length
      · obtain ⟨b, o, rfl, hbc, hc0⟩ := hrd.at k (by simpa [strs] using hlt)
        have hbb : b < wr.heap.size := Nat.lt_of_lt_of_le hbc hbel.size
        have hc : ∀ (j : Nat) (u : Value), (strs L)[j]? = some u → wr.cell? ⟨b, o + j, none⟩ = some u := fun j u hu => (hbel.cell (p := ⟨b, o + j, none⟩) hbc).trans (hc0 j u hu)
        clear hc0
        have hck := hc k _ (strs_get hlt)
        have hd := drop_cons L k hlt
        obtain ⟨e, he⟩ : ∃ e, L[k] = e := ⟨_, rfl⟩
        rw [he] at hck hd
        clear hc
        have hlen1 : lensB out ≤ lensB (L.take (k + 1)) := by
          rw [List.take_succ_eq_append_getElem hlt, lensB_app]; omega
        have hlen2 : lensB (out ++ [e]) ≤ lensB (L.take (k + 1)) := by
          rw [List.take_succ_eq_append_getElem hlt, lensB_app, lensB_app, he]; omega
        have hlen3 := lensB_take L (k + 1)
        have hol : out.length + 1 ≤ 2000000002 := by have := len_lensB (out ++ [e]); rw [List.length_append, List.length_singleton] at this; omega
        have hle : e.length + 1 ≤ lensB L := by have := lensB_get L k hlt; rw [he] at this; omega
        obtain ⟨Ao, capo, rfl, hcapo, hcm, _⟩ := Rd.of_own hown
        have HL1 := Lib.hid hlt
        clear he
        by_cases e1 : e = []
        · subst e1
          have Y := Lib.hid (show resB work text = resGo out (L.drop (k + 1)) by rw [HT2.out, hd, resGo_skip _ _ _ (.inl rfl)])
          clear HT2 hd
          go_wp2
          go_roundw
          case rel => exact ⟨out, k + 1, by go_num, by omega, Y.out, hlen1, hown, hbel⟩
          case measure => simp [intOf]; omega
        by_cases e2 : e = [46]
        · subst e2
          have Y := Lib.hid (show resB work text = resGo out (L.drop (k + 1)) by rw [HT2.out, hd, resGo_skip _ _ _ (.inr rfl)])
          clear HT2 hd
          go_wp2
          go_roundw
          case rel => exact ⟨out, k + 1, by go_num, by omega, Y.out, hlen1, hown, hbel⟩
          case measure => simp [intOf]; omega
        by_cases e3 : e = [46, 46]
        · subst e3
          rcases nil_or_snoc out with rfl | ⟨init, last, rfl⟩
          · have Y := Lib.hid (show resB work text = none by rw [HT2.out, hd, resGo_up0])
            clear HT2 hd
            go_wp2
            go_ret2
            exact ⟨by rw [resOutP_none Y.out]; rfl, hb3.trans (hbel.mono hb3.size)⟩
          · have Y := Lib.hid (show resB work text = resGo init (L.drop (k + 1)) by rw [HT2.out, hd, resGo_up _ _ (by simp)]; simp)
            have hli : lensB init ≤ lensB (L.take (k + 1)) := by rw [lensB_app] at hlen1; omega
            clear HT2 hd
            have hown' : wr.ownsRow w3.heap.size 9 1 (.slice Ao (init.length + 1) capo) (init.length + 1) (strs init ++ strs [last]) := by
              rw [← strs_app]; simpa using hown
            obtain ⟨g, rfl⟩ : ∃ g, Ao = some ⟨g, 0, none⟩ := by
              rcases hown'.2 with ⟨_, h⟩ | ⟨g, _, _, h, _⟩
              · cases h
              · cases h; exact ⟨g, rfl⟩
            have hown2 := ownsRow_pop (by simp [strs]) hown'
            have hil : init.length ≤ 4294967295 := by rw [List.length_append] at hol; omega
            have hcapo' : init.length + 1 ≤ capo := by simpa using hcapo
            clear hown hown'
            go_wp2
            go_roundw
            case rel => exact ⟨init, k + 1, by go_num, by omega, Y.out, hli, by simpa using hown2, hbel⟩
            case measure => simp [intOf]; omega
        have f1 : e.isEmpty = false := by cases e <;> simp_all
        have f1' : (e == []) = false := by simpa using e1
        have f2 : (e == [46]) = false := by simpa using e2
        have f3 : (e == [46, 46]) = false := by simpa using e3
        cases hE : elementB e
        · have Y := Lib.hid (show resB work text = none by rw [HT2.out, hd, resGo_no _ _ _ e1 e2 e3 hE])
          have HE := Lib.hid hE
          clear HT2 hd hE e1 e2 e3
          go_wp2_with (first | (at_builtin; refine wpList_append_own _ rfl _ _ 44 rfl w3.heap.size 9 i0 (.string ByteArray.empty) 1 16 Tryd.underlying44 hi hz0 hz1 hz2 rfl (by decide) _ _ _ rfl (hown.alloc _) ⟨wr.heap.size, 0, none⟩ 1 1 [.string (S e)] rfl rfl (cell_new1 _ _ _) (by simp [Value.oneCell']) (by unfold maxLen; omega) (by omega) (by have := hbel.size; simp; omega) ?_; intro v' w1 hown1 hgr1 _; have hbel1 : Below w3.heap.size w3 w1 := (hbel.alloc hbel.size _).grown hgr1 (by have := hbel.size; simp; omega) (fun q hq => ((hown.alloc (.cells #[.string (S e)] 9)).lt q hq).1); have hck1 : w1.cell? ⟨b, o + k, none⟩ = some (.string (S e)) := ((hbel1.cell (p := ⟨b, o + k, none⟩) hbc).trans (hbel.cell (p := ⟨b, o + k, none⟩) hbc).symm).trans hck) | (go_at_call 42; refine (elementP_any e _ (by unfold maxLen; omega)).mono ?_; rintro e9 w9 ⟨rfl, rfl⟩; rw [HE.out]))
          go_ret2
          exact ⟨by rw [resOutP_none Y.out]; rfl, hb3.trans (hbel.mono hb3.size)⟩
        · have Y := Lib.hid (show resB work text = resGo (out ++ [e]) (L.drop (k + 1)) by rw [HT2.out, hd, resGo_in _ _ _ e1 e2 e3 hE])
          have HE := Lib.hid hE
          clear HT2 hd hE e1 e2 e3
          go_wp2_with (first | (at_builtin; refine wpList_append_own _ rfl _ _ 44 rfl w3.heap.size 9 i0 (.string ByteArray.empty) 1 16 Tryd.underlying44 hi hz0 hz1 hz2 rfl (by decide) _ _ _ rfl (hown.alloc _) ⟨wr.heap.size, 0, none⟩ 1 1 [.string (S e)] rfl rfl (cell_new1 _ _ _) (by simp [Value.oneCell']) (by unfold maxLen; omega) (by omega) (by have := hbel.size; simp; omega) ?_; intro v' w1 hown1 hgr1 _; have hbel1 : Below w3.heap.size w3 w1 := (hbel.alloc hbel.size _).grown hgr1 (by have := hbel.size; simp; omega) (fun q hq => ((hown.alloc (.cells #[.string (S e)] 9)).lt q hq).1); have hck1 : w1.cell? ⟨b, o + k, none⟩ = some (.string (S e)) := ((hbel1.cell (p := ⟨b, o + k, none⟩) hbc).trans (hbel.cell (p := ⟨b, o + k, none⟩) hbc).symm).trans hck) | (go_at_call 42; refine (elementP_any e _ (by unfold maxLen; omega)).mono ?_; rintro e9 w9 ⟨rfl, rfl⟩; rw [HE.out]))
          go_roundw
          case rel => exact ⟨out ++ [e], k + 1, by go_num, by omega, Y.out, hlen2, by rw [strs_app, List.length_append]; exact hown1, hbel1⟩
          case measure => simp [intOf]; omega
      · obtain rfl : k = L.length := by omega
        have Y := Lib.hid (show resB work text = some out by rw [HT2.out, List.drop_length]; rfl)
        have hlen1 : lensB out ≤ lensB L := by rw [List.take_length] at hlen; exact hlen
        have hlo := len_lensB out
        have hjl := joinB_len out
        obtain ⟨Ao, capo, rfl, hcapo, hcm, hrdo⟩ := Rd.of_own hown
        have hbw : Below w.heap.size w wr := hb3.trans (hbel.mono hb3.size)
        clear HT2 hown hlen
        have Z := Lib.hid (resOutP_some Y.out)
        clear Y
        have HSr := Lib.hid (HS.out.below hbw)
        go_wp2_with (first | (go_at_call 45; refine (join_any out Ao capo _ hrdo hcapo (by omega)).mono ?_; rintro e9 w9 ⟨rfl, hb9⟩) | (go_at_call 26; refine (pathP_any (joinB out) _ (HSr.out.below hb9) (by omega)).mono ?_; rintro e9 w10 ⟨rfl, hb10⟩))
        go_ret2
        exact ⟨by rw [Z.out]; rfl, hbw.trans ((hb9.trans (hb10.mono hb9.size)).mono hbw.size)⟩
end Go.Proofs.YtkaelknmdmkhcaaDoor
