/-
  The law's words: trees out of raw numbers.
-/
import Derived.BigRegion
import Derived.BigQuiet
import Derived.Deep.RegionWith
import Derived.Deep.RegionHeld3
import Derived.StillTailTactics
import Derived.Test.YtpkabccinhfmbaaGreatDoorY00
import Derived.Test.YtpkabccinhfmbaaGreatDoorY01
import Derived.Test.YtpkabccinhfmbaaGreatDoorY02
set_option linter.unusedVariables false
set_option linter.unusedSimpArgs false
namespace Go.Proofs.YtpkabccinhfmbaaGreatDoor
open Go.RowKit

theorem below_drew' {B : Nat} {a w : World} (h : Below B a w) : Below B a w.drew := ⟨h.os, h.tape, h.output, h.size, h.block⟩
theorem below_drewN' {B : Nat} {a w : World} (h : Below B a w) (n : Nat) : Below B a (w.drewN n) := ⟨h.os, h.tape, h.output, h.size, h.block⟩
theorem rd_alloc' (w : World) (cs : List Value) (t : TypeId) : Rd (w.alloc (.cells cs.toArray t)) (some ⟨w.heap.size, 0, none⟩) cs := by
  refine .inr ⟨_, 0, rfl, fun i u hu => ?_⟩
  rw [cell_of_row _ _ _ _ _ _ (Go.heap_alloc_new w _)]
  simpa using hu
/-- a block of four cells, made ahead of what has come since -/
def F4 (w4 : World) (g : Nat) (a b c d : Value) : Prop := (w4.cell? ⟨g, 0, none⟩ = some a ∧ w4.cell? ⟨g, 1, none⟩ = some b ∧ w4.cell? ⟨g, 2, none⟩ = some c ∧ w4.cell? ⟨g, 3, none⟩ = some d) ∧ (w4.frozen? ⟨g, 0, none⟩ = false ∧ w4.frozen? ⟨g, 1, none⟩ = false ∧ w4.frozen? ⟨g, 2, none⟩ = false ∧ w4.frozen? ⟨g, 3, none⟩ = false) ∧ g < w4.heap.size
theorem f4_new {w w4 : World} {a b c d : Value} {t : TypeId} (hb : Below (w.alloc (.cells #[a, b, c, d] t)).heap.size (w.alloc (.cells #[a, b, c, d] t)) w4) : F4 w4 w.heap.size a b c d := by
  have h : w4.heap[w.heap.size]? = some (.cells #[a, b, c, d] t (0, 0)) := (hb.block _ (by simp)).trans (heap_alloc_new w _)
  refine ⟨⟨?_, ?_, ?_, ?_⟩, ⟨frozen_of_row _ _ _ _ _ h, frozen_of_row _ _ _ _ _ h, frozen_of_row _ _ _ _ _ h, frozen_of_row _ _ _ _ _ h⟩, (Array.getElem?_eq_some_iff.1 h).1⟩ <;> rw [cell_of_row _ _ _ _ _ _ h] <;> rfl
theorem far4 {w : World} {g h o : Nat} {a b c d : Value} (hne : h ≠ g) : ((((w.setCell ⟨g, 0, none⟩ a).setCell ⟨g, 1, none⟩ b).setCell ⟨g, 2, none⟩ c).setCell ⟨g, 3, none⟩ d).cell? ⟨h, o, none⟩ = w.cell? ⟨h, o, none⟩ :=
  World.cell?_of_block (w := w) (a := ⟨h, o, none⟩) (by
    rw [heap_setCell_other _ ⟨g, 3, none⟩ h _ hne, heap_setCell_other _ ⟨g, 2, none⟩ h _ hne, heap_setCell_other _ ⟨g, 1, none⟩ h _ hne, heap_setCell_other _ ⟨g, 0, none⟩ h _ hne])
theorem blk_new {w w4 : World} {a b c d : Value} {t : TypeId} (hb : Below (w.alloc (.cells #[a, b, c, d] t)).heap.size (w.alloc (.cells #[a, b, c, d] t)) w4) : w4.heap[w.heap.size]? = some (.cells #[a, b, c, d] t (0, 0)) := (hb.block _ (by simp)).trans (heap_alloc_new w _)
theorem set4 {w : World} {g : Nat} {a b c d : Value} {t : TypeId} (h : w.heap[g]? = some (.cells #[a, b, c, d] t (0, 0))) (e : Ent) : Cell4 ((((w.setCell ⟨g, 0, none⟩ (.string (S e.path))).setCell ⟨g, 1, none⟩ (.int .i64 e.kind)).setCell ⟨g, 2, none⟩ (.int .i64 e.mode)).setCell ⟨g, 3, none⟩ (.string (S e.data))) g e := by
  have h1 := Go.heap_setCell_same w g 0 _ _ (.string (S e.path)) h
  have h2 := Go.heap_setCell_same _ g 1 _ _ (.int .i64 e.kind) h1
  have h3 := Go.heap_setCell_same _ g 2 _ _ (.int .i64 e.mode) h2
  have h4 := Go.heap_setCell_same _ g 3 _ _ (.string (S e.data)) h3
  refine ⟨?_, ?_, ?_, ?_⟩ <;> rw [cell_of_row _ _ _ _ _ _ h4] <;> rfl
theorem pick_any (c n : Int) (w : World) (hn : 0 < n) (hn2 : n ≤ 1000) (h1 : -9223372036854775808 ≤ c) (h2 : c ≤ 9223372036854775807) :
    Calls Tryz.prog 12 #[.int .i64 c, .int .i64 n] w fun e w' => (∃ r, e = .returned (.int .i64 r) ∧ 0 ≤ r ∧ r < n) ∧ w = w' := by
  have f0 : (n == 0) = false := by rw [beq_eq_false_iff_ne]; omega
  have f1 : ¬ n = 0 := by omega
  have HZ := Lib.hid (show -n < c.tmod n ∧ c.tmod n < n from ⟨Int.lt_tmod_of_pos c hn, Int.tmod_lt_of_pos c hn⟩)
  have hneg : n ≠ -1 := by omega
  by_cases hz : c.tmod n < 0
  · have hb : -1000 ≤ c.tmod n := by have := HZ.out; omega
    go_enter Tryz.func12, Tryz.ntmps12
    go_wp2
    go_ret
    have := HZ.out
    exact ⟨⟨_, rfl, by omega, by omega⟩, rfl⟩
  · have hb : 0 ≤ c.tmod n := by omega
    go_enter Tryz.func12, Tryz.ntmps12
    go_wp2
    go_ret
    have := HZ.out
    exact ⟨⟨_, rfl, by omega, by omega⟩, rfl⟩
set_option maxHeartbeats 1000000 in
theorem rawUp_any (p : List UInt8) (w : World) (hp : p.length ≤ 1000000) :
    Calls Tryz.prog 11 #[.string (S p)] w fun e w' => e = .returned (.string (S (rawUp p p.length))) ∧ w' = w := by
  go_enter Tryz.func11, Tryz.ntmps11
  go_wp2
  go_loopw [3] (fun i wr => ∃ k : Nat, k ≤ p.length ∧ i = .int .i64 ((k : Int) - 1) ∧ Hid (rawUp p p.length = rawUp p k) ∧ w = wr) (fun i _ => ((intOf i) + 1).toNat)
  case atStart => exact ⟨p.length, Nat.le_refl _, rfl, Lib.hid rfl, rfl⟩
  case round =>
    obtain ⟨k, hk, rfl, HR, rfl⟩ := hrel
    cases k with
    | zero =>
      have HE := Lib.hid (show rawUp p p.length = [] from HR.out)
      have f : ¬ (0 : Int) ≤ ((0 : Nat) : Int) - 1 := by omega
      go_wp2
      go_ret
      exact ⟨by (rw [HE.out] <;> rfl), rfl⟩
    | succ k =>
      have e1 : ((k + 1 : Nat) : Int) - 1 = (k : Int) := by omega
      rw [e1]
      have hkl : (k : Int) < (p.length : Int) := by omega
      have hk0 : (0 : Int) ≤ (k : Int) := by omega
      have hwr : IntKind.i64.wrap ((k : Int) - 1) = (k : Int) - 1 := by rw [IntKind.wrap_i64] <;> omega
      by_cases hc : p[k] = 47
      · have HE := Lib.hid (show rawUp p p.length = p.take k by rw [HR.out, rawUp, if_pos (by rw [List.getElem?_eq_getElem (by omega), hc])])
        have f : (((p[k]'(by omega)).toNat : Int) == 47) = true := by rw [hc]; rfl
        go_wp2
        go_ret
        exact ⟨by (rw [HE.out] <;> rfl), rfl⟩
      · have HE := Lib.hid (show rawUp p p.length = rawUp p k by rw [HR.out, rawUp, if_neg (by rw [List.getElem?_eq_getElem (by omega)]; intro h; exact hc (Option.some.inj h))])
        have f : (((p[k]'(by omega)).toNat : Int) == 47) = false := by
          rw [beq_eq_false_iff_ne]
          intro h
          have h3 : (p[k]'(by omega)).toNat = 47 := by omega
          exact hc (UInt8.toNat_inj.1 (by rw [h3]; rfl))
        go_wp2
        go_roundw
        case rel => exact ⟨k, by omega, rfl, HE, trivial⟩
        case measure => simp [intOf] <;> omega
set_option maxRecDepth 100000 in
set_option maxHeartbeats 1000000 in
theorem paths_any (w : World) :
    Calls Tryz.prog 10 #[] w fun e w' => ∃ A, e = .returned (.slice A rawPaths.length 17) ∧ Rd w' A (strs rawPaths) ∧ Below w.heap.size w w' := by
  go_enter Tryz.func10, Tryz.ntmps10
  go_wp2
  go_loopw [2, 1] (fun i l wr => ∃ k : Nat, k ≤ 12 ∧ i = .int .i64 k ∧ l = .string (S (rawRep k)) ∧ w = wr) (fun i _ _ => 12 - (intOf i).toNat)
  case atStart => exact ⟨0, by omega, rfl, rfl, rfl⟩
  case round =>
    obtain ⟨k, hk, rfl, rfl, rfl⟩ := hrel
    have hl := rawRep_len k
    by_cases hlt : k < 12
    · have HS := Lib.hid (show rawRep (k + 1) = rawRep k ++ rawTen from rfl)
      go_wp2
      go_roundw
      case rel => exact ⟨k + 1, by omega, by go_num, by rw [HS.out]; rfl, trivial⟩
      case measure => simp [intOf]; omega
    · obtain rfl : k = 12 := by omega
      obtain ⟨L, hL⟩ : ∃ L, rawRep 12 = L := ⟨_, rfl⟩
      have HP := Lib.hid (show rawPaths = [[97], [97, 47, 98], [97, 47, 98, 47, 99], [97, 47, 100], [97, 47, 101], [97, 45, 98], [98], [100], [100, 47, 120], [100, 47, 120, 47, 121], [100, 47, 120, 47, 121, 47, 122], [100, 47, 122], L.take 50, L.take 50 ++ 47 :: L.take 55, L.take 50 ++ 47 :: (L.take 55 ++ 47 :: L.take 60), [119], [119, 47, 102]] by rw [← hL]; simp [rawPaths])
      rw [hL] at hl ⊢
      clear hL
      replace hl : L.length = 120 := hl
      have h50 : (50 : Int) ≤ (L.length : Int) := by omega
      have h55 : (55 : Int) ≤ (L.length : Int) := by omega
      have h60 : (60 : Int) ≤ (L.length : Int) := by omega
      go_upto_region 6 with fail
      go_region
      go_wp2
      go_ret
      refine ⟨_, rfl, ?_, (below_drew' (Below.refl _ _)).alloc (Nat.le_refl _) _⟩
      rw [HP.out]
      exact rd_alloc' w.drew _ tStr
/-- a thing's cells -/
def thingV (a b c : Int) (d : List UInt8) : Value := .agg #[.int .i64 a, .int .i64 b, .int .i64 c, .string (S d)]
set_option maxRecDepth 100000 in
set_option maxHeartbeats 4000000 in
theorem entry_any (k0 k1 k2 : Int) (d p : List UInt8) (w : World) (hd : d.length ≤ 9223372036854775807) (h1 : -9223372036854775808 ≤ k1 ∧ k1 ≤ 9223372036854775807) (h2 : -9223372036854775808 ≤ k2 ∧ k2 ≤ 9223372036854775807) :
    Calls Tryz.prog 13 #[thingV k0 k1 k2 d, .string (S p)] w fun e w' => (∃ c : Ent, e = .returned c.agg ∧ c.path = p ∧ goodB c = true) ∧ Below w.heap.size w w' := by
  have HP2 := Lib.hid (fun W => pick_any k2 512 W (by omega) (by omega) h2.1 h2.2)
  have HP1 := Lib.hid (fun W => pick_any k1 4 W (by omega) (by omega) h1.1 h1.2)
  clear h1 h2
  unfold thingV
  go_enter Tryz.func13, Tryz.ntmps13
  go_wp2_with fail
  refine (HP2.out _).mono ?_
  rintro e w1 ⟨⟨m, rfl, m0, m1⟩, rfl⟩
  go_wp2_with fail
  refine (HP1.out _).mono ?_
  rintro e w1 ⟨⟨k, rfl, k0, k1⟩, rfl⟩
  have HM := Lib.hid (show modeE m = true by unfold modeE; simp only [Bool.and_eq_true, decide_eq_true_eq]; omega)
  by_cases e0 : k = 0
  · subst e0
    by_cases hl : d.length ≤ 4096
    · have f : ¬ (4096 : Int) < (d.length : Int) := by omega
      go_wp2
      refine bodyPost_ret (show (results Tryz.f13 _).run Tryz.prog _ = .ok (Ent.agg ⟨p, 2, m, d⟩) _ from (by simp [results, Tryz.f13, go_sem, Ent.agg])) rfl ?_
      refine ⟨⟨_, rfl, rfl, by have := HM.out; simp [goodB, this, hl]⟩, ?_⟩
      repeat (first | exact Below.refl _ _ | refine Below.setCell ?_ (by simp <;> omega) _ | refine Below.alloc ?_ (by simp <;> omega) _)
    · have f : (4096 : Int) < (d.length : Int) := by omega
      go_wp2
      refine bodyPost_ret (show (results Tryz.f13 _).run Tryz.prog _ = .ok (Ent.agg ⟨p, 2, m, d.take 4096⟩) _ from (by simp [results, Tryz.f13, go_sem, Ent.agg])) rfl ?_
      refine ⟨⟨_, rfl, rfl, by have := HM.out; simp [goodB, this]; omega⟩, ?_⟩
      repeat (first | exact Below.refl _ _ | refine Below.setCell ?_ (by simp <;> omega) _ | refine Below.alloc ?_ (by simp <;> omega) _)
  · have f0 : (k == 0) = false := by rw [beq_eq_false_iff_ne]; exact e0
    by_cases e1 : k = 1
    · subst e1
      go_wp2
      refine bodyPost_ret (show (results Tryz.f13 _).run Tryz.prog _ = .ok (Ent.agg ⟨p, 3, 0, [97, 47, 98]⟩) _ from (by simp [results, Tryz.f13, go_sem, Ent.agg])) rfl ?_
      refine ⟨⟨_, rfl, rfl, by simp [goodB, targetB, visC]⟩, ?_⟩
      repeat (first | exact Below.refl _ _ | refine Below.setCell ?_ (by simp <;> omega) _ | refine Below.alloc ?_ (by simp <;> omega) _)
    · have f1 : (k == 1) = false := by rw [beq_eq_false_iff_ne]; exact e1
      go_wp2
      refine bodyPost_ret (show (results Tryz.f13 _).run Tryz.prog _ = .ok (Ent.agg ⟨p, 1, m, []⟩) _ from (by simp [results, Tryz.f13, go_sem, Ent.agg])) rfl ?_
      refine ⟨⟨_, rfl, rfl, by have := HM.out; simp [goodB, this]⟩, ?_⟩
      repeat (first | exact Below.refl _ _ | refine Below.setCell ?_ (by simp <;> omega) _ | refine Below.alloc ?_ (by simp <;> omega) _)
def thing1 (t : Int × Int × Int × List UInt8) : List Value := [.int .i64 t.1, .int .i64 t.2.1, .int .i64 t.2.2.1, .string (S t.2.2.2)]
/-- the cells of things -/
def things : List (Int × Int × Int × List UInt8) → List Value
  | [] => []
  | t :: r => thing1 t ++ things r
theorem things_len (l : List (Int × Int × Int × List UInt8)) : (things l).length = l.length * 4 := by
  induction l with
  | nil => rfl
  | cons t r ih => simp only [things, thing1, List.length_append, List.length_cons, List.length_nil, ih]; omega
theorem things_get (l : List (Int × Int × Int × List UInt8)) (k : Nat) (h : k < l.length) : (things l)[k * 4]? = some (.int .i64 l[k].1) ∧ (things l)[k * 4 + 1]? = some (.int .i64 l[k].2.1) ∧ (things l)[k * 4 + 2]? = some (.int .i64 l[k].2.2.1) ∧ (things l)[k * 4 + 3]? = some (.string (S l[k].2.2.2)) := by
  induction l generalizing k with
  | nil => simp at h
  | cons t r ih =>
    cases k with
    | zero => simp [things, thing1]
    | succ k =>
      have h' : k < r.length := by simpa using h
      obtain ⟨c0, c1, c2, c3⟩ := ih k h'
      have e : ∀ q, (things (t :: r))[(k + 1) * 4 + q]? = (things r)[k * 4 + q]? := by
        intro q
        rw [things, List.getElem?_append_right (by simp [thing1]; omega)]
        congr 1
        simp [thing1]; omega
      have e0 := e 0
      simp only [Nat.add_zero] at e0
      exact ⟨e0.trans c0, (e 1).trans c1, (e 2).trans c2, (e 3).trans c3⟩
set_option maxRecDepth 100000 in
set_option maxHeartbeats 1200000 in
theorem rawTree_any (l : List (Int × Int × Int × List UInt8)) (A : Option Addr) (cap : Nat) (w : World) (hr : Rd w A (things l)) (hl : l.length ≤ 9223372036854775807) (hs : ∀ t ∈ l, t.2.2.2.length ≤ 9223372036854775807)
    (hi : ∀ t ∈ l, (-9223372036854775808 ≤ t.1 ∧ t.1 ≤ 9223372036854775807) ∧ (-9223372036854775808 ≤ t.2.1 ∧ t.2.1 ≤ 9223372036854775807) ∧ (-9223372036854775808 ≤ t.2.2.1 ∧ t.2.2.1 ≤ 9223372036854775807)) :
    Calls Tryz.prog 4 #[.slice A l.length cap] w fun e w' => ∃ v, e = .returned v ∧ ∃ out, OwnE w' w.heap.size v out ∧ RawOk 17 out ∧ Below w.heap.size w w' := by
  obtain ⟨i0, hi0, hz0, hz1, hz2⟩ := info_parts (show (Tryz.prog.info? 41).map (fun i => (i.zero, i.size, i.bytes)) = some (some entZ, 4, 48) by kernel_rfl)
  have HR := Lib.hid hr
  have HS := Lib.hid hs
  have HI := Lib.hid hi
  clear hr hs hi
  go_enter Tryz.func4, Tryz.ntmps4
  go_wp2_with fail
  refine (paths_any w).mono ?_
  rintro e w1 ⟨A1, rfl, hrd, hb1⟩
  have HP := Lib.hid hrd
  have HB1 := Lib.hid hb1
  have hpl : rawPaths.length = 17 := rfl
  clear hrd hb1
  have HPk := Lib.hid (fun (i : Nat) (h : i < rawPaths.length) => rawPaths_at h)
  have HSn := Lib.hid (fun (i : Nat) (out : List Ent) (h : RawOk i out) (hi : i < rawPaths.length) (c : Ent) => h.snoc hi c)
  generalize rawPaths = ps at *
  go_wp2
  go_loopw [5, 3] (fun vi vo wr => ∃ (i : Nat) (out : List Ent), i ≤ 17 ∧ vi = .int .i64 i ∧ Hid (OwnE wr w1.heap.size vo out) ∧ Hid (RawOk i out) ∧ Hid (Below w1.heap.size w1 wr)) (fun vi _ _ => 17 - (intOf vi).toNat)
  case atStart => exact ⟨0, [], by omega, rfl, Lib.hid (World.ownsRow_nil _ _ _ _), Lib.hid ⟨Nat.le_refl _, fun j hj => by simp at hj, fun e he => by simp at he⟩, Lib.hid (Below.refl _ _)⟩
  case round =>
    obtain ⟨i, out, hi17, rfl, HO, HK, HB⟩ := hrel
    obtain ⟨av, cv, hve⟩ := ownsRow_form HO.out
    subst hve
    have HBw := Lib.hid (HB1.out.trans (HB.out.mono HB1.out.size))
    have hol := HK.out.len
    by_cases hlt : i < 17
    · have hip : i < ps.length := by omega
      obtain ⟨bq, oq, hAq, hbq, hcq⟩ := HP.out.at i (by rw [strs_len]; exact hip)
      subst hAq
      have hcq1 := hcq i _ (strs_get hip)
      obtain ⟨p1, p2, p3, p4⟩ := HPk.out i hip
      have HSn2 := Lib.hid (fun (h : RawOk i out) (c : Ent) => HSn.out i out h hip c)
      obtain ⟨p, hpp⟩ : ∃ p, ps[i] = p := ⟨_, rfl⟩
      rw [hpp] at hcq1 p1 p2 p3 p4 HSn2
      obtain ⟨d, hd⟩ : ∃ d, rawUp p p.length = d := ⟨_, rfl⟩
      have HUp := Lib.hid (fun W => rawUp_any p W (by omega))
      rw [hd] at HUp p4
      have HUd := Lib.hid p4
      have HG := Lib.hid (fun (wx : World) (hb : Below w1.heap.size w1 wx) => (hb.cell (p := ⟨bq, oq + i, none⟩) hbq).trans hcq1)
      have g0 := HG.out wr HB.out
      have hil : (i : Int) < (ps.length : Int) := by omega

      clear hpp hd p1 p2 p4 hcq hcq1 hpl
      go_wp2_with fail
      refine (HUp.out _).mono ?_
      rintro e w2 ⟨rfl, rfl⟩
      go_wp2
      go_loopw [6, 7] (fun vd vk wx => ∃ (k : Nat) (D : Bool), k ≤ out.length ∧ vk = .int .i64 k ∧ vd = .bool D ∧ Hid (D = true → d = [] ∨ ∃ e ∈ out, e.path = d ∧ e.kind = 1) ∧ Hid (OwnE wx w1.heap.size (.slice av out.length cv) out) ∧ Hid (Below w1.heap.size w1 wx)) (fun _ vk _ => out.length - (intOf vk).toNat)
      case atStart =>
        exact ⟨0, d.isEmpty, Nat.zero_le _, rfl, rfl, Lib.hid (fun h => .inl (by simpa using h)), HO, HB⟩
      case round =>
        obtain ⟨k, D, hk, rfl, rfl, HD, HO2, HB2⟩ := hrel
        clear g0
        by_cases hkl : k < out.length
        · have hkI : (k : Int) < (out.length : Int) := by omega
          have g0 := HG.out _ HB2.out
          cases D with
          | true =>
            go_upto_region 10 with fail
            go_quiet (fail)
            generalize hD : World.drewN wr _ = wd
            have HO3 := Lib.hid (show OwnE wd w1.heap.size (.slice av out.length cv) out by rw [← hD]; exact HO2.out)
            have HB3 := Lib.hid (show Below w1.heap.size w1 wd by rw [← hD]; exact below_drewN' HB2.out _)
            clear hD HO2 HB2
            go_wp2
            go_roundw
            case rel => exact ⟨k + 1, true, by omega, by go_num, rfl, HD, HO3, HB3⟩
            case measure => simp [intOf]; omega
          | false =>
            have hrdO : Rd wr av (ents out) := by
              obtain ⟨A', c', hv, _, _, hrd⟩ := Rd.of_own HO2.out
              cases hv; exact hrd
            obtain ⟨be, oe, hAe, hbe, e0, e1, e2, e3⟩ := ents_at hrdO (Below.refl _ _) k hkl
            subst hAe
            obtain ⟨c, hcc⟩ : ∃ c, out[k] = c := ⟨_, rfl⟩
            have HMc := Lib.hid (show c ∈ out from hcc ▸ List.getElem_mem hkl)
            rw [hcc] at e0 e1 e2 e3
            clear hcc hrdO
            by_cases hpd : c.path = d
            · have f1 : (c.path == d) = true := by rw [beq_iff_eq]; exact hpd
              by_cases hk1 : c.kind = 1
              · have f2 : (c.kind == 1) = true := by rw [beq_iff_eq]; exact hk1
                have HD2 := Lib.hid (show true = true → d = [] ∨ ∃ e ∈ out, e.path = d ∧ e.kind = 1 from fun _ => .inr ⟨c, HMc.out, hpd, hk1⟩)
                clear hpd hk1
                go_upto_region 10 with fail
                go_quiet (exact Calls.quiet_of_same (HUp.out _))
                generalize hD : World.drewN wr _ = wd
                have HO3 := Lib.hid (show OwnE wd w1.heap.size (.slice (some ⟨be, oe, none⟩) out.length cv) out by rw [← hD]; exact HO2.out)
                have HB3 := Lib.hid (show Below w1.heap.size w1 wd by rw [← hD]; exact below_drewN' HB2.out _)
                clear hD HO2 HB2
                go_wp2
                go_roundw
                case rel => exact ⟨k + 1, true, by omega, by go_num, rfl, HD2, HO3, HB3⟩
                case measure => simp [intOf]; omega
              · have f2 : (c.kind == 1) = false := by rw [beq_eq_false_iff_ne]; exact hk1
                clear hpd hk1
                go_upto_region 10 with fail
                go_quiet (exact Calls.quiet_of_same (HUp.out _))
                generalize hD : World.drewN wr _ = wd
                have HO3 := Lib.hid (show OwnE wd w1.heap.size (.slice (some ⟨be, oe, none⟩) out.length cv) out by rw [← hD]; exact HO2.out)
                have HB3 := Lib.hid (show Below w1.heap.size w1 wd by rw [← hD]; exact below_drewN' HB2.out _)
                clear hD HO2 HB2
                go_wp2
                go_roundw
                case rel => exact ⟨k + 1, false, by omega, by go_num, rfl, HD, HO3, HB3⟩
                case measure => simp [intOf]; omega
            · have f1 : (c.path == d) = false := by rw [beq_eq_false_iff_ne]; exact hpd
              clear hpd
              go_upto_region 10 with fail
              go_quiet (exact Calls.quiet_of_same (HUp.out _))
              generalize hD : World.drewN wr _ = wd
              have HO3 := Lib.hid (show OwnE wd w1.heap.size (.slice (some ⟨be, oe, none⟩) out.length cv) out by rw [← hD]; exact HO2.out)
              have HB3 := Lib.hid (show Below w1.heap.size w1 wd by rw [← hD]; exact below_drewN' HB2.out _)
              clear hD HO2 HB2
              go_wp2
              go_roundw
              case rel => exact ⟨k + 1, false, by omega, by go_num, rfl, HD, HO3, HB3⟩
              case measure => simp [intOf]; omega
        · obtain rfl : k = out.length := by omega
          have f : ¬ (out.length : Int) < (out.length : Int) := by omega
          go_wp2
          go_loopw [8, 3, 6] (fun vk vo vd wx => ∃ (k : Nat) (D2 : Bool) (out2 : List Ent), k ≤ l.length ∧ vk = .int .i64 ((k : Int) - 1) ∧ vd = .bool D2 ∧ Hid (OwnE wx w1.heap.size vo out2) ∧ Hid (Below w1.heap.size w1 wx) ∧ Hid ((out2 = out ∧ (D2 = true → d = [] ∨ ∃ e ∈ out, e.path = d ∧ e.kind = 1)) ∨ (D2 = false ∧ RawOk (i + 1) out2))) (fun vk _ _ _ => ((intOf vk) + 1).toNat)
          case atStart => exact ⟨l.length, D, out, Nat.le_refl _, rfl, rfl, HO2, HB2, Lib.hid (.inl ⟨rfl, HD.out⟩)⟩
          case round =>
            clear HO2 HB2 HD
            obtain ⟨k, D2, out2, hk, rfl, rfl, HO2, HB2, HC⟩ := hrel
            obtain ⟨av2, cv2, hve⟩ := ownsRow_form HO2.out
            subst hve
            have HEnd := Lib.hid (show RawOk (i + 1) out2 by
              rcases HC.out with ⟨rfl, _⟩ | ⟨_, h⟩
              · exact HK.out.step
              · exact h)
            cases k with
            | zero =>
              have f : ¬ (0 : Int) ≤ ((0 : Nat) : Int) - 1 := by omega
              go_wp2
              go_roundw
              case rel => exact ⟨i + 1, out2, by omega, by go_num, HO2, HEnd, HB2⟩
              case measure => simp [intOf]; omega
            | succ k =>
              have e1 : ((k + 1 : Nat) : Int) - 1 = (k : Int) := by omega
              rw [e1]
              cases D2 with
              | false =>
                go_wp2
                go_roundw
                case rel => exact ⟨i + 1, out2, by omega, by go_num, HO2, HEnd, HB2⟩
                case measure => simp [intOf]; omega
              | true =>
                obtain ⟨hoe, hPO⟩ : out2 = out ∧ (d = [] ∨ ∃ e ∈ out, e.path = d ∧ e.kind = 1) := by
                  rcases HC.out with ⟨h1, h2⟩ | ⟨h1, _⟩
                  · exact ⟨h1, h2 rfl⟩
                  · cases h1
                subst hoe
                have HPO := Lib.hid hPO
                clear hPO HC
                have hkl : k < l.length := by omega
                have hkI : (k : Int) < (l.length : Int) := by omega
                have hk0 : (0 : Int) ≤ (k : Int) := by omega
                have hwr : IntKind.i64.wrap ((k : Int) - 1) = (k : Int) - 1 := by rw [IntKind.wrap_i64] <;> omega
                have HBw2 := Lib.hid (HB1.out.trans (HB2.out.mono HB1.out.size))
                obtain ⟨bt, ot, hAt, hbt, hct⟩ := HR.out.at (k * 4) (by rw [things_len]; omega)
                subst hAt
                obtain ⟨y0, y1, y2, y3⟩ := things_get l k hkl
                have t0 := (HBw2.out.cell (p := ⟨bt, ot + k * 4, none⟩) hbt).trans (hct _ _ y0)
                have t1 := (HBw2.out.cell (p := ⟨bt, ot + (k * 4 + 1), none⟩) hbt).trans (hct _ _ y1)
                have t2 := (HBw2.out.cell (p := ⟨bt, ot + (k * 4 + 2), none⟩) hbt).trans (hct _ _ y2)
                have t3 := (HBw2.out.cell (p := ⟨bt, ot + (k * 4 + 3), none⟩) hbt).trans (hct _ _ y3)
                replace t1 : wr.cell? ⟨bt, ot + k * 4 + 1, none⟩ = some (.int .i64 l[k].2.1) := t1
                replace t2 : wr.cell? ⟨bt, ot + k * 4 + 2, none⟩ = some (.int .i64 l[k].2.2.1) := t2
                replace t3 : wr.cell? ⟨bt, ot + k * 4 + 3, none⟩ = some (.string (S l[k].2.2.2)) := t3
                obtain ⟨⟨a1, a2⟩, b12, c12⟩ := HI.out l[k] (List.getElem_mem hkl)
                have hdl := HS.out l[k] (List.getElem_mem hkl)
                obtain ⟨⟨x0, x1, x2, x3⟩, ht⟩ : ∃ t, l[k] = t := ⟨_, rfl⟩
                rw [ht] at t0 t1 t2 t3 a1 a2 b12 c12 hdl
                simp only at t0 t1 t2 t3 a1 a2 b12 c12 hdl
                have HPk2 := Lib.hid (fun W => pick_any x0 17 W (by omega) (by omega) a1 a2)
                have HEn := Lib.hid (fun W => entry_any x0 x1 x2 x3 p W hdl b12 c12)
                have g0 := HG.out _ HB2.out
                clear hct y0 y1 y2 y3 ht a1 a2 b12 c12 hdl
                go_wp2_with fail
                refine (HPk2.out _).mono ?_
                rintro e w3 ⟨⟨r, rfl, r0, r1⟩, rfl⟩
                by_cases hri : r = (i : Int)
                · have f3 : (r == (i : Int)) = true := by rw [beq_iff_eq]; exact hri
                  clear hri
                  unfold thingV at HEn
                  go_upto_region 15 with fail
                  have hbt1 : bt < wr.heap.size := World.block_lt_of_cell? wr _ t0
                  have hbq1 : bq < wr.heap.size := World.block_lt_of_cell? wr _ g0
                  have hnt : ¬ bt = wr.heap.size := by omega
                  have hnq : ¬ bq = wr.heap.size := by omega
                  have HT := Lib.hid (fun (wx : World) (hb : Below wr.heap.size wr wx) => (⟨(hb.cell (p := ⟨bt, ot + k * 4, none⟩) hbt1).trans t0, (hb.cell (p := ⟨bt, ot + k * 4 + 1, none⟩) hbt1).trans t1, (hb.cell (p := ⟨bt, ot + k * 4 + 2, none⟩) hbt1).trans t2, (hb.cell (p := ⟨bt, ot + k * 4 + 3, none⟩) hbt1).trans t3, (hb.cell (p := ⟨bq, oq + i, none⟩) hbq1).trans g0⟩ : (fun w' => w'.cell? ⟨bt, ot + k * 4, none⟩ = some (.int .i64 x0) ∧ w'.cell? ⟨bt, ot + k * 4 + 1, none⟩ = some (.int .i64 x1) ∧ w'.cell? ⟨bt, ot + k * 4 + 2, none⟩ = some (.int .i64 x2) ∧ w'.cell? ⟨bt, ot + k * 4 + 3, none⟩ = some (.string (S x3)) ∧ w'.cell? ⟨bq, oq + i, none⟩ = some (.string (S p))) wx))
                  go_region_held3 (fun w' => w'.cell? ⟨bt, ot + k * 4, none⟩ = some (.int .i64 x0) ∧ w'.cell? ⟨bt, ot + k * 4 + 1, none⟩ = some (.int .i64 x1) ∧ w'.cell? ⟨bt, ot + k * 4 + 2, none⟩ = some (.int .i64 x2) ∧ w'.cell? ⟨bt, ot + k * 4 + 3, none⟩ = some (.string (S x3)) ∧ w'.cell? ⟨bq, oq + i, none⟩ = some (.string (S p))) (first | go_keep | exact ⟨(far4 hnt).trans r0', (far4 hnt).trans r1', (far4 hnt).trans r2', (far4 hnt).trans r3', (far4 hnq).trans r4'⟩) (first | (go_at_call 13; refine (HEn.out _).mono ?_; rintro e w4 ⟨⟨⟨cp, ck, cm, cd⟩, rfl, hcp, hcg⟩, hb4⟩; simp only at hcp; subst hcp; have hbx : Below wr.heap.size wr w4 := (by first | exact (below_drew' (Below.refl _ _)).trans hb4 | exact (Below.alloc (below_drew' (Below.refl _ _)) (Nat.le_refl _) _).trans (hb4.mono (by simp))); obtain ⟨r0', r1', r2', r3', r4'⟩ := HT.out _ hbx; simp only [Ent.agg]; have hbs := hbx.size; have hbt4 : bt < w4.heap.size := (by omega); have hbq4 : bq < w4.heap.size := (by omega); have HBx := Lib.hid hbx; have HCg := Lib.hid hcg; have HB4' := Lib.hid hb4; (first | (have hF : F4 w4 wr.heap.size (.string (S [])) (.int .i64 0) (.int .i64 0) (.string (S [])) := f4_new (w := wr.drew) hb4; obtain ⟨⟨d0, d1, d2, d3⟩, ⟨d4, d5, d6, d7⟩, d8⟩ := hF; have HBk := Lib.hid (blk_new (w := wr.drew) hb4)) | skip)))
                  · have HBX := Lib.hid (HBx.out.alloc (by have := HBx.out.size; omega) (.cells #[.string (S cp), .int .i64 ck, .int .i64 cm, .string (S cd)] 41))
                    have HQ := Lib.hid (Cell4.new w4 ⟨cp, ck, cm, cd⟩ 41)
                    generalize hX : w4.alloc (.cells #[.string (S cp), .int .i64 ck, .int .i64 cm, .string (S cd)] 41) = X at HBX HQ ⊢
                    clear hX
                    have HO5 := Lib.hid (ownsRow_below HO2.out HBX.out)
                    have HB5 := Lib.hid (HB2.out.trans (HBX.out.mono HB2.out.size))
                    have HSnc := Lib.hid (HSn2.out HK.out ⟨cp, ck, cm, cd⟩ rfl HCg.out (by rw [← HUd.out]; exact HPO.out))
                    obtain ⟨q0, q1, q2, q3⟩ := HQ.out
                    clear hnt hnq hbt1 hbq1 HBX HCg HB4' hbs hbt4 hbq4 t0 t1 t2 t3 g0 HO2 HB2 HBw2 HT HQ
                    go_wp2_with (at_builtin; refine wpList_append_own _ rfl _ _ 23 rfl w1.heap.size 41 i0 entZ 4 48 Tryz.underlying23 hi0 hz0 hz1 hz2 rfl (by decide) _ _ _ rfl (HO5.out.alloc _) ⟨_, 0, none⟩ 1 1 [.string (S cp), .int .i64 ck, .int .i64 cm, .string (S cd)] rfl rfl (cells4_at _ _ _ _ _ _ _ (by simp)) (by simp [Value.oneCell']) (by unfold maxLen; omega) (by omega) (by simp; have := HB5.out.size; omega) ?_; intro v' w5 hown5 hgr5 _; obtain ⟨ao', c', rfl⟩ := ownsRow_form hown5; have HB6 := Lib.hid ((HB5.out.alloc HB5.out.size _).grown hgr5 (by have := HB5.out.size; simp; omega) (fun kq hq => ((HO5.out.alloc (.cells #[.string (S cp), .int .i64 ck, .int .i64 cm, .string (S cd)] 41)).lt kq hq).1)); have HO6 := Lib.hid (own_snoc hown5); clear hown5 hgr5)
                    go_roundw
                    case rel => exact ⟨k, false, out2 ++ [⟨cp, ck, cm, cd⟩], by omega, rfl, rfl, by simpa using HO6, HB6, Lib.hid (.inr ⟨rfl, HSnc.out⟩)⟩
                    case measure => simp [intOf] <;> omega
                  · have HBX : Hid (Below wr.heap.size wr ((((w4.setCell ⟨wr.heap.size, 0, none⟩ (.string (S cp))).setCell ⟨wr.heap.size, 1, none⟩ (.int .i64 ck)).setCell ⟨wr.heap.size, 2, none⟩ (.int .i64 cm)).setCell ⟨wr.heap.size, 3, none⟩ (.string (S cd)))) := Lib.hid ((((HBx.out.setCell (Nat.le_refl _) _).setCell (Nat.le_refl _) _).setCell (Nat.le_refl _) _).setCell (Nat.le_refl _) _)
                    have HQ : Hid (Cell4 ((((w4.setCell ⟨wr.heap.size, 0, none⟩ (.string (S cp))).setCell ⟨wr.heap.size, 1, none⟩ (.int .i64 ck)).setCell ⟨wr.heap.size, 2, none⟩ (.int .i64 cm)).setCell ⟨wr.heap.size, 3, none⟩ (.string (S cd))) wr.heap.size ⟨cp, ck, cm, cd⟩) := Lib.hid (set4 HBk.out ⟨cp, ck, cm, cd⟩)
                    clear d0 d1 d2 d3 d4 d5 d6 d7 d8 HBk
                    generalize hX : ((((w4.setCell ⟨wr.heap.size, 0, none⟩ (.string (S cp))).setCell ⟨wr.heap.size, 1, none⟩ (.int .i64 ck)).setCell ⟨wr.heap.size, 2, none⟩ (.int .i64 cm)).setCell ⟨wr.heap.size, 3, none⟩ (.string (S cd))) = X at HBX HQ ⊢
                    clear hX
                    have HO5 := Lib.hid (ownsRow_below HO2.out HBX.out)
                    have HB5 := Lib.hid (HB2.out.trans (HBX.out.mono HB2.out.size))
                    have HSnc := Lib.hid (HSn2.out HK.out ⟨cp, ck, cm, cd⟩ rfl HCg.out (by rw [← HUd.out]; exact HPO.out))
                    obtain ⟨q0, q1, q2, q3⟩ := HQ.out
                    clear hnt hnq hbt1 hbq1 HBX HCg HB4' hbs hbt4 hbq4 t0 t1 t2 t3 g0 HO2 HB2 HBw2 HT HQ
                    go_wp2_with (at_builtin; refine wpList_append_own _ rfl _ _ 23 rfl w1.heap.size 41 i0 entZ 4 48 Tryz.underlying23 hi0 hz0 hz1 hz2 rfl (by decide) _ _ _ rfl (HO5.out.alloc _) ⟨_, 0, none⟩ 1 1 [.string (S cp), .int .i64 ck, .int .i64 cm, .string (S cd)] rfl rfl (cells4_at _ _ _ _ _ _ _ (by simp)) (by simp [Value.oneCell']) (by unfold maxLen; omega) (by omega) (by simp; have := HB5.out.size; omega) ?_; intro v' w5 hown5 hgr5 _; obtain ⟨ao', c', rfl⟩ := ownsRow_form hown5; have HB6 := Lib.hid ((HB5.out.alloc HB5.out.size _).grown hgr5 (by have := HB5.out.size; simp; omega) (fun kq hq => ((HO5.out.alloc (.cells #[.string (S cp), .int .i64 ck, .int .i64 cm, .string (S cd)] 41)).lt kq hq).1)); have HO6 := Lib.hid (own_snoc hown5); clear hown5 hgr5)
                    go_roundw
                    case rel => exact ⟨k, false, out2 ++ [⟨cp, ck, cm, cd⟩], by omega, rfl, rfl, by simpa using HO6, HB6, Lib.hid (.inr ⟨rfl, HSnc.out⟩)⟩
                    case measure => simp [intOf] <;> omega
                · have f3 : (r == (i : Int)) = false := by rw [beq_eq_false_iff_ne]; exact hri
                  clear hri
                  go_wp2
                  go_roundw
                  case rel => exact ⟨k, true, out2, by omega, rfl, rfl, HO2, HB2, Lib.hid (.inl ⟨rfl, fun _ => HPO.out⟩)⟩
                  case measure => simp [intOf] <;> omega
    · obtain rfl : i = 17 := by omega
      have f : ¬ ((17 : Nat) : Int) < (ps.length : Int) := by omega
      go_wp2
      go_ret
      exact ⟨_, rfl, out, ownsRow_base HO.out HB1.out.size, HK.out, HBw.out⟩
end Go.Proofs.YtpkabccinhfmbaaGreatDoor
