import Derived.Test.YtikdblkfjchjbaaGreatDoorY04
import Derived.Test.YtikdblkfjchjbaaGreatDoorY09
set_option linter.unusedVariables false
set_option linter.unusedSimpArgs false
set_option maxHeartbeats 16000000
set_option maxRecDepth 100000
namespace Go.Proofs.YtikdblkfjchjbaaGreatDoor
open Go.RowKit
theorem qs8 (l : List (List UInt8)) : Lib.join l [47] = qae l := by
 unfold Lib.join;induction l with
 | nil => rfl
 | cons a r ih =>
  cases r with
  | nil => simp [List.intercalate, qae]
  | cons b t =>
   rw [qae, ← ih];simp [List.intercalate]
theorem qxr {w w' : World} {base : Nat} {e : TypeId} {size : Nat} {v : Value} {n : Nat} {xs : List Value} (h : w.ownsRow base e size v n xs) (hb : Below w.heap.size w w') : w'.ownsRow base e size v n xs :=
 ⟨h.1, h.2.imp_right fun ⟨g, cap, cur, hv, hg, hh, r⟩ => ⟨g, cap, cur, hv, hg, (hb.block g (q41 hh).1).trans hh, r⟩⟩
theorem q0s (l : List (List UInt8)) (A : Option Addr) (cap : Nat) (w : World) (hr : Rd w A (strs l)) (hcap : l.length ≤ cap) (hs : qbr l ≤ 4294967290) :
 Calls Tryz.prog 156 #[.slice A l.length cap, .string (S [47])] w fun e w' => e = .returned (.string (S (qae l))) ∧ Below w.heap.size w w' := by
 have hll := qiw l;have hjl := qln l;by_cases h0 : l = []
 ·subst h0
  exact (Tryz.strings_Join_none A cap (S [47]) w).mono fun e w' ⟨he, hw⟩ => ⟨he, hw ▸ Below.refl _ _⟩
 ·obtain ⟨b, o, rfl, hb, hc⟩ := hr.at 0 (by rw [qb2]; exact List.length_pos_iff.2 h0)
  have e1 : ((l.map S).map (·.data.toList)) = l := by rw [List.map_map]; exact (List.map_congr_left fun x _ => qdh x).trans (List.map_id _)
  have := Tryz.strings_Join b o cap (l.map S) (S [47]) w (fun j x hx => by
   refine hc j _ ?_;rw [List.getElem?_map] at hx;cases h : l[j]? with
   | none => rw [h] at hx; cases hx
   | some y => rw [h] at hx; cases hx; simp [strs, h]) hb (by rw [List.length_map]; omega) (by rw [List.length_map]; exact hcap) (by rw [e1, qdh, qs8]; omega)
  rw [List.length_map, e1, qdh, qs8] at this;exact this
def qgt (work text : List UInt8) : Value := match resB work text with
 | none => .tuple #[.string (S []), .bool false]
 | some out => .tuple #[.string (S (qae out)), .bool (qa3 (qae out))]
theorem qgs {work text : List UInt8} (h : resB work text = none) : qgt work text = .tuple #[.string (S []), .bool false] := by rw [qgt, h]
theorem qgr {work text : List UInt8} {out : List (List UInt8)} (h : resB work text = some out) : qgt work text = .tuple #[.string (S (qae out)), .bool (qa3 (qae out))] := by rw [qgt, h]
def q4m (w : World) (work text : List UInt8) (v : Value) (wx : World) : Prop :=
 wx.ownsRow w.heap.size 9 1 v (if text.head? = some 47 then [] else cutB 47 work).length (strs (if text.head? = some 47 then [] else cutB 47 work)) ∧ Below w.heap.size w wx
theorem qe8 (work text : List UInt8) (w : World) (hw : Std w) (hs : work.length + text.length ≤ 2000000000) :
 Calls Tryz.prog 130 #[.string (S work), .string (S text)] w fun e w' => e = .returned (qgt work text) ∧ Below w.heap.size w w' := by
 obtain ⟨i0, hi, hz0, hz1, hz2⟩ := info_parts (show (Tryz.prog.info? 9).map (fun i => (i.zero, i.size, i.bytes)) = some (some (.string ByteArray.empty), 1, 16) by kernel_rfl);have HS := q4z hw;clear hw;obtain ⟨D, hD⟩ : ∃ D, ([47] : List UInt8).isPrefixOf text = D := ⟨_, rfl⟩;have HD := q4z hD;have hDi : D = true ↔ text.head? = some 47 := by
  rw [← hD];cases text with
  | nil => exact ⟨fun h => (by cases h), fun h => (by cases h)⟩
  | cons c r =>
   rw [List.head?_cons, List.isPrefixOf];constructor
   ·intro h; rw [Bool.and_eq_true, beq_iff_eq] at h; rw [h.1]
   ·intro h; cases h; rfl
 have HDi := q4z hDi;clear hD hDi;go_enter Tryz.func130, Tryz.ntmps130;go_upto_if 13 with (go_at_call 67; refine (qfj text [47] _).mono ?_; rintro e w1 ⟨rfl, rfl⟩; rw [HD.out])
 go_cut [6] (fun v wx => q4m w work text v wx)
 case first =>
  cases D
  ·have hn : ¬ text.head? = some 47 := fun h => absurd (HDi.out.2 h) (by simp)
   have X := q4z (show (if text.head? = some 47 then [] else cutB 47 work) = cutB 47 work from if_neg hn);clear hn;go_wp2_with (go_at_call 137; refine (qk0 work 47 _ HS.out (by omega)).mono ?_; rintro e w1 ⟨v, rfl, hown, hb⟩)
   go_meet
   exact ⟨by rw [X.out]; exact hown, hb⟩
  ·have X := q4z (show (if text.head? = some 47 then [] else cutB 47 work) = [] from if_pos (HDi.out.1 rfl))
   go_wp2;go_meet
   exact ⟨by rw [X.out]; exact World.ownsRow_nil _ _ _ _, Below.refl _ _⟩
 case rest =>
  obtain ⟨hown0, hb0⟩ := hcut;have HL := q4z (show allP work text = (if text.head? = some 47 then [] else cutB 47 work) ++ cutB 47 text by
   unfold allP; split <;> simp)
  have hLb := (qyb work text).2;have hLl := qiw (allP work text);generalize hH : (if text.head? = some 47 then [] else cutB 47 work) = H at *;have hHL : H.length + (cutB 47 text).length = (allP work text).length := by rw [HL.out, List.length_append]
  clear hH;go_wp2_with fail;refine (qk0 text 47 _ (HS.out.below hb0) (by omega)).mono ?_;rintro e w2 ⟨v2, rfl, hown2, hb2⟩;have hne : (cutB 47 text).length ≠ 0 := by have := qic 47 text; intro h; exact this (List.eq_nil_of_length_eq_zero h)
  obtain ⟨ad2, cap2, rfl, hc2⟩ : ∃ ad2 cap2, v2 = .slice (some ad2) (cutB 47 text).length cap2 ∧ ∀ j u, (strs (cutB 47 text))[j]? = some u → w2.cell? (ad2.add j) = some u := by
   rcases qxp hown2 with ⟨_, h⟩ | ⟨ad, cap, h, hc⟩
   ·exact absurd h hne
   ·exact ⟨ad, cap, h, hc⟩
  have HC2 := q4z hc2;have hown02 := qxr hown0 hb2;have hb02 : Below w.heap.size w w2 := hb0.trans (hb2.mono hb0.size);clear hown2 hne hc2 hown0;go_wp2_with (at_builtin; refine wpList_append_own _ rfl _ _ 26 rfl w.heap.size 9 i0 (.string ByteArray.empty) 1 16 Tryz.underlying26 hi hz0 hz1 hz2 rfl (by decide) _ _ _ rfl hown02 ad2 _ cap2 _ rfl (qwr _) HC2.out (qwq _) (by unfold maxLen; omega) (by omega) hb02.size ?_; intro v' w3 hown3 hgr3 _; have hb3 : Below w.heap.size w w3 := hb02.grown hgr3 hb02.size (fun q hq => (hown02.lt q hq).1); rw [← qnp, ← List.length_append, ← HL.out] at hown3; obtain ⟨A, cap, rfl, _, _, hrd⟩ := Rd.of_own hown3; clear hown3 hgr3 hown02)
  generalize hL : allP work text = L at *;have HT := q4z (show resB work text = qeb [] L by unfold resB; rw [← qxa, hL]);clear hL HL HC2 hb0 hb2 hb02 hHL;go_loopw [7, 21] (fun v i wr => RelR w3 L (resB work text) v i wr) (fun _ i _ => L.length - (intOf i).toNat)
  case atStart => exact ⟨[], 0, rfl, Nat.zero_le _, HT.out, by simp [qbr], World.ownsRow_nil _ _ _ _, Below.refl _ _⟩
  case round =>
   obtain ⟨out, k, rfl, hk, hT, hlen, hown, hbel⟩ := hrel;have HT2 := q4z hT;clear hT HT;by_cases hlt : k < L.length
   ·obtain ⟨b, o, rfl, hbc, hc0⟩ := hrd.at k (by simpa [strs] using hlt)
    have hbb : b < wr.heap.size := Nat.lt_of_lt_of_le hbc hbel.size;have hc : ∀ (j : Nat) (u : Value), (strs L)[j]? = some u → wr.cell? ⟨b, o + j, none⟩ = some u := fun j u hu => (hbel.cell (p := ⟨b, o + j, none⟩) hbc).trans (hc0 j u hu)
    clear hc0;have hck := hc k _ (qcg hlt);have hd := qyu L k hlt;obtain ⟨e, he⟩ : ∃ e, L[k] = e := ⟨_, rfl⟩;rw [he] at hck hd;clear hc;have hlen1 : qbr out ≤ qbr (L.take (k + 1)) := by
     rw [List.take_succ_eq_append_getElem hlt, qez]; omega
    have hlen2 : qbr (out ++ [e]) ≤ qbr (L.take (k + 1)) := by
     rw [List.take_succ_eq_append_getElem hlt, qez, qez, he]; omega
    have hlen3 := qjo L (k + 1);have hol : out.length + 1 ≤ 2000000002 := by have := qiw (out ++ [e]); rw [List.length_append, List.length_singleton] at this; omega
    have hle : e.length + 1 ≤ qbr L := by have := qiu L k hlt; rw [he] at this; omega
    obtain ⟨Ao, capo, rfl, hcapo, hcm, _⟩ := Rd.of_own hown;have HL1 := q4z hlt;clear he;by_cases e1 : e = []
    ·subst e1
     have Y := q4z (show resB work text = qeb out (L.drop (k + 1)) by rw [HT2.out, hd, qje _ _ _ (.inl rfl)]);clear HT2 hd;go_wp2;go_roundw
     case rel => exact ⟨out, k + 1, by go_num, by omega, Y.out, hlen1, hown, hbel⟩
     case measure => simp [intOf]; omega
    by_cases e2 : e = [46]
    ·subst e2
     have Y := q4z (show resB work text = qeb out (L.drop (k + 1)) by rw [HT2.out, hd, qje _ _ _ (.inr rfl)]);clear HT2 hd;go_wp2;go_roundw
     case rel => exact ⟨out, k + 1, by go_num, by omega, Y.out, hlen1, hown, hbel⟩
     case measure => simp [intOf]; omega
    by_cases e3 : e = [46, 46]
    ·subst e3
     rcases qex out with rfl | ⟨init, last, rfl⟩
     ·have Y := q4z (show resB work text = none by rw [HT2.out, hd, qw9])
      clear HT2 hd;go_wp2;go_ret2;exact ⟨by rw [qgs Y.out]; rfl, hb3.trans (hbel.mono hb3.size)⟩
     ·have Y := q4z (show resB work text = qeb init (L.drop (k + 1)) by rw [HT2.out, hd, qz6 _ _ (by simp)]; simp)
      have hli : qbr init ≤ qbr (L.take (k + 1)) := by rw [qez] at hlen1; omega
      clear HT2 hd;have hown' : wr.ownsRow w3.heap.size 9 1 (.slice Ao (init.length + 1) capo) (init.length + 1) (strs init ++ strs [last]) := by
       rw [← qnp]; simpa using hown
      obtain ⟨g, rfl⟩ : ∃ g, Ao = some ⟨g, 0, none⟩ := by
       rcases hown'.2 with ⟨_, h⟩ | ⟨g, _, _, h, _⟩
       ·cases h
       ·cases h; exact ⟨g, rfl⟩
      have hown2 := ownsRow_pop (by simp [strs]) hown';have hil : init.length ≤ 4294967295 := by rw [List.length_append] at hol; omega
      have hcapo' : init.length + 1 ≤ capo := by simpa using hcapo
      clear hown hown';go_wp2;go_roundw
      case rel => exact ⟨init, k + 1, by go_num, by omega, Y.out, hli, by simpa using hown2, hbel⟩
      case measure => simp [intOf]; omega
    have f1 : e.isEmpty = false := by cases e <;> simp_all
    have f1' : (e == []) = false := by simpa using e1
    have f2 : (e == [46]) = false := by simpa using e2
    have f3 : (e == [46, 46]) = false := by simpa using e3
    cases hE : qa5 e
    ·have Y := q4z (show resB work text = none by rw [HT2.out, hd, qz7 _ _ _ e1 e2 e3 hE])
     have HE := q4z hE;clear HT2 hd hE e1 e2 e3
     go_wp2_with (first | (at_builtin; refine wpList_append_own _ rfl _ _ 26 rfl w3.heap.size 9 i0 (.string ByteArray.empty) 1 16 Tryz.underlying26 hi hz0 hz1 hz2 rfl (by decide) _ _ _ rfl (hown.alloc _) ⟨wr.heap.size, 0, none⟩ 1 1 [.string (S e)] rfl rfl (ql4 _ _ _) (by simp [Value.oneCell']) (by unfold maxLen; omega) (by omega) (by have := hbel.size; simp; omega) ?_; intro v' w1 hown1 hgr1 _; have hbel1 : Below w3.heap.size w3 w1 := (hbel.alloc hbel.size _).grown hgr1 (by have := hbel.size; simp; omega) (fun q hq => ((hown.alloc (.cells #[.string (S e)] 9)).lt q hq).1); have hck1 : w1.cell? ⟨b, o + k, none⟩ = some (.string (S e)) := ((hbel1.cell (p := ⟨b, o + k, none⟩) hbc).trans (hbel.cell (p := ⟨b, o + k, none⟩) hbc).symm).trans hck) | (go_at_call 105; refine (qfc e _ (by unfold maxLen; omega)).mono ?_; rintro e9 w9 ⟨rfl, rfl⟩; rw [HE.out]))
     go_ret2;exact ⟨by rw [qgs Y.out]; rfl, hb3.trans (hbel.mono hb3.size)⟩
    ·have Y := q4z (show resB work text = qeb (out ++ [e]) (L.drop (k + 1)) by rw [HT2.out, hd, qz8 _ _ _ e1 e2 e3 hE])
     have HE := q4z hE;clear HT2 hd hE e1 e2 e3
     go_wp2_with (first | (at_builtin; refine wpList_append_own _ rfl _ _ 26 rfl w3.heap.size 9 i0 (.string ByteArray.empty) 1 16 Tryz.underlying26 hi hz0 hz1 hz2 rfl (by decide) _ _ _ rfl (hown.alloc _) ⟨wr.heap.size, 0, none⟩ 1 1 [.string (S e)] rfl rfl (ql4 _ _ _) (by simp [Value.oneCell']) (by unfold maxLen; omega) (by omega) (by have := hbel.size; simp; omega) ?_; intro v' w1 hown1 hgr1 _; have hbel1 : Below w3.heap.size w3 w1 := (hbel.alloc hbel.size _).grown hgr1 (by have := hbel.size; simp; omega) (fun q hq => ((hown.alloc (.cells #[.string (S e)] 9)).lt q hq).1); have hck1 : w1.cell? ⟨b, o + k, none⟩ = some (.string (S e)) := ((hbel1.cell (p := ⟨b, o + k, none⟩) hbc).trans (hbel.cell (p := ⟨b, o + k, none⟩) hbc).symm).trans hck) | (go_at_call 105; refine (qfc e _ (by unfold maxLen; omega)).mono ?_; rintro e9 w9 ⟨rfl, rfl⟩; rw [HE.out]))
     go_roundw
     case rel => exact ⟨out ++ [e], k + 1, by go_num, by omega, Y.out, hlen2, by rw [qnp, List.length_append]; exact hown1, hbel1⟩
     case measure => simp [intOf]; omega
   ·obtain rfl : k = L.length := by omega
    have Y := q4z (show resB work text = some out by rw [HT2.out, List.drop_length]; rfl);have hlen1 : qbr out ≤ qbr L := by rw [List.take_length] at hlen; exact hlen
    have hlo := qiw out;have hjl := qln out;obtain ⟨Ao, capo, rfl, hcapo, hcm, hrdo⟩ := Rd.of_own hown;have hbw : Below w.heap.size w wr := hb3.trans (hbel.mono hb3.size);clear HT2 hown hlen;have Z := q4z (qgr Y.out);clear Y;have HSr := q4z (HS.out.below hbw);go_wp2_with (first | (go_at_call 156; refine (q0s out Ao capo _ hrdo hcapo (by omega)).mono ?_; rintro e9 w9 ⟨rfl, hb9⟩) | (go_at_call 62; refine (qgv (qae out) _ (HSr.out.below hb9) (by omega)).mono ?_; rintro e9 w10 ⟨rfl, hb10⟩))
    go_ret2;exact ⟨by rw [Z.out]; rfl, hbw.trans ((hb9.trans (hb10.mono hb9.size)).mono hbw.size)⟩
end Go.Proofs.YtikdblkfjchjbaaGreatDoor
